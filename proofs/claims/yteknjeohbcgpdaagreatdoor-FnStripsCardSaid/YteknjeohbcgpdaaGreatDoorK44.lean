/-
  Contracts of the program's clobberMoves and stripMoves. (2 texts.)
-/
import Derived.Test.YteknjeohbcgpdaaGreatDoorK20
set_option maxRecDepth 100000
namespace Go.Proofs.YteknjeohbcgpdaaGreatDoor
open Tryz
section
open Go.RowKit
open bz (Stp pk wJ OT xH gP jH jN st2)
theorem NY{s:ByteArray}{i:Nat}(h:i<s.size)(n:Nat)(m:Int)(hm:m=n)(hn:n<256):((((s[i]'h).toNat:Nat):Int) != m)=!decide ((bH s)[i]?=some (UInt8.ofNat n)):=by
 subst hm;rw[bne,lg h n hn]
set_option maxHeartbeats 1000000 in
theorem BV(s:ByteArray)(hs:s.size<=12)(w:World):Calls prog 96 #[.string s,.bool true] w (jJ w (jN 0 true (bH s))):=by
 obtain⟨i0,hi0,hz0,hz1,hz2⟩:=info_parts fO;have hm:=Rs.new w;go_enter Tryz.func96,Tryz.ntmps96
 go_wp2
 go_loopw [8,9,14] (λov _ ii wr=>∃(i:Nat) (ss:List ByteArray),ii=.int .i64 ((i:Nat):Int)/\i<=s.size/\Rs w wr ov ss/\Hid (ss.map bH=qf 0 true (bH s) i)) (λ_ _ ii _=>s.size-(intOf ii).toNat)
 case atStart=>exact⟨0,[],rfl,az _,hm,aH rfl⟩
 case round=>
  clear hm;obtain⟨i,ss,rfl,hi,hm,fK⟩:=hrel;by_cases hlt:i<s.size
  .have h1:((i:Nat):Int)<((s.size:Nat):Int):=by omega
   have dK:=aH hlt;have hb:=NY dK.out 84 84 rfl (by decide);have hse:=jZ 0 true (bH s) i;have hln:=lV 0 true (bH s) i;have hsl:ss.length<=24:=(by have e:=congrArg List.length fK.out;rw[aJ]at e;omega);obtain⟨ao,co,rfl,-,-⟩:=bD hm.own;obtain⟨hw1,hw2⟩:wrap64 (((i:Nat):Int)+1)=((i:Nat):Int)+1/\wrap64 (((i:Nat):Int)+2*1)=((i:Nat):Int)+2*1:=⟨dS (by omega),dS (by omega)⟩;have hc1:=uX s (((i:Nat):Int)+1) 46 46 rfl (by decide) (by decide);have hc2:=uX s (((i:Nat):Int)+1) 70 70 rfl (by decide) (by decide);have hc3:=uX s (((i:Nat):Int)+2*1) 46 46 rfl (by decide) (by decide);rw[show(2:Int)*1=2 from rfl]at hw2 hc3;by_cases hc:(bH s)[i]?=some 84
   .rw[decide_eq_true (show(bH s)[i]?=some (UInt8.ofNat 84) from hc)]at hb
    by_cases hp:pk (bH s) (((i:Nat):Int)+1)=some 46
    .rw[decide_eq_true (show pk (bH s) (((i:Nat):Int)+1)=some (UInt8.ofNat 46) from hp)]at hc1
     obtain⟨j,hj,hj2⟩:=bz.jA.1 hp;have hjl:=bz.fU hj2;rw[bN]at hjl;have hmv:jH 0 true (bH s) i=[((bH s).set i 46).set j 84]:=by
      show gP true (bH s) i=_;rw[gP,if_pos (show(bH s)[i]?=some (wJ true) from hc),if_pos (show pk (bH s) (((i:Nat):Int)+xH true)=some 46 from hp),st2,show((i:Nat):Int)+xH true=((j:Nat):Int) from hj];simp[wJ]
     rw[hmv]at hse;have lT:=aH hse;have hs1:∀w,Calls prog 155 #[.string s,.int .i64 ((i:Nat):Int),.int .u8 46,.int .i64 (((i:Nat):Int)+1),.int .u8 84] w λe w'=>∃u,e=.returned (.string u)/\bH u=((bH s).set i 46).set j 84/\Ext w w':=λw=>by
      rw[hj];exact nR s (by omega) i j dK.out hjl 46 84 w
     have ou:=aH hs1;clear hp hc hs1 hmv hse hln hlt hj hj2 hc2 hc3 hw2
     go_wp2_with (first
      |(go_at_call 154;refine(jc s _ _).mono ?_;rintro e w2 ⟨rfl,hr⟩;have hm:=hm.to (bS hr);clear hr)
      |(go_at_call 155;refine(ou.out _).mono ?_;rintro e w3 ⟨u,rfl,hu,hr⟩;have hm:=hm.to hr;have HU:=aH hu;clear hr hu)
      |(at_builtin;refine bQ rfl (.tmp 29) (.tmp 37) 22 rfl w.heap.size 9 i0 (.string ⟨#[]⟩) 1 16 underlying22 hi0 hz0 hz1 hz2 rfl (by decide) (.slice ao ss.length co) ss.length (ss.map Value.string) rfl (hm.own.alloc _) _ 1 _ [.string u] rfl rfl (.inr ⟨_,rfl,cK (bP _ _ _)⟩) dH (by unfold maxLen;omega) (by omega) (by have:=hm.ext.size;rw[fw];omega) ?_;intro v5 w5 fI hg5 hl5;have hm:=hm.put fI hg5))
     go_roundw
     case rel=>exact⟨i+1,ss++[u],by go_num,dK.out,hm,aH (by rw[aU,fK.out,lT.out];simp[HU.out])⟩
     case measure=>have:=dK.out;simp[intOf];omega
    .rw[decide_eq_false (show ¬pk (bH s) (((i:Nat):Int)+1)=some (UInt8.ofNat 46) from hp)]at hc1
     by_cases hq:pk (bH s) (((i:Nat):Int)+1)=some 70
     .rw[decide_eq_true (show pk (bH s) (((i:Nat):Int)+1)=some (UInt8.ofNat 70) from hq)]at hc2
      by_cases hr:pk (bH s) (((i:Nat):Int)+2)=some 46
      .rw[decide_eq_true (show pk (bH s) (((i:Nat):Int)+2)=some (UInt8.ofNat 46) from hr)]at hc3
       obtain⟨j,hj,hj2⟩:=bz.jA.1 hr;have hjl:=bz.fU hj2;rw[bN]at hjl;have hmv:jH 0 true (bH s) i=[((bH s).set i 46).set j 84]:=by
        show gP true (bH s) i=_;rw[gP,if_pos (show(bH s)[i]?=some (wJ true) from hc),if_neg (show ¬pk (bH s) (((i:Nat):Int)+xH true)=some 46 from hp),if_pos ⟨show pk (bH s) (((i:Nat):Int)+xH true)=some (OT true) from hq,show pk (bH s) (((i:Nat):Int)+2*xH true)=some 46 from hr⟩,st2,show((i:Nat):Int)+2*xH true=((j:Nat):Int) from hj];simp[wJ]
       rw[hmv]at hse;have lT:=aH hse;have hs1:∀w,Calls prog 155 #[.string s,.int .i64 ((i:Nat):Int),.int .u8 46,.int .i64 (((i:Nat):Int)+2),.int .u8 84] w λe w'=>∃u,e=.returned (.string u)/\bH u=((bH s).set i 46).set j 84/\Ext w w':=λw=>by
        rw[show((i:Nat):Int)+2=((j:Nat):Int) from hj];exact nR s (by omega) i j dK.out hjl 46 84 w
       have ou:=aH hs1;clear hp hq hr hc hs1 hmv hse hln hlt hj hj2
       go_wp2_with (first
        |(go_at_call 154;refine(jc s _ _).mono ?_;rintro e w2 ⟨rfl,hr⟩;have hm:=hm.to (bS hr);clear hr)
        |(go_at_call 155;refine(ou.out _).mono ?_;rintro e w3 ⟨u,rfl,hu,hr⟩;have hm:=hm.to hr;have HU:=aH hu;clear hr hu)
        |(at_builtin;refine bQ rfl (.tmp 56) (.tmp 65) 22 rfl w.heap.size 9 i0 (.string ⟨#[]⟩) 1 16 underlying22 hi0 hz0 hz1 hz2 rfl (by decide) (.slice ao ss.length co) ss.length (ss.map Value.string) rfl (hm.own.alloc _) _ 1 _ [.string u] rfl rfl (.inr ⟨_,rfl,cK (bP _ _ _)⟩) dH (by unfold maxLen;omega) (by omega) (by have:=hm.ext.size;rw[fw];omega) ?_;intro v5 w5 fI hg5 hl5;have hm:=hm.put fI hg5))
       go_roundw
       case rel=>exact⟨i+1,ss++[u],by go_num,dK.out,hm,aH (by rw[aU,fK.out,lT.out];simp[HU.out])⟩
       case measure=>have:=dK.out;simp[intOf];omega
      .rw[decide_eq_false (show ¬pk (bH s) (((i:Nat):Int)+2)=some (UInt8.ofNat 46) from hr)]at hc3
       have hno:jH 0 true (bH s) i=[]:=by
        show gP true (bH s) i=_;rw[gP,if_pos (show(bH s)[i]?=some (wJ true) from hc),if_neg (show ¬pk (bH s) (((i:Nat):Int)+xH true)=some 46 from hp),if_neg (λk=>hr k.2)]
       rw[hno,bq]at hse;have lT:=aH hse;clear hse hln hno hlt;clear hp hq hr hc;go_wp2_with (go_at_call 154;refine(jc s _ _).mono ?_;rintro e w2 ⟨rfl,hr⟩;have hm:=hm.to (bS hr);clear hr)
       go_roundw
       case rel=>exact⟨i+1,ss,by go_num,dK.out,hm,aH (by rw[fK.out,lT.out])⟩
       case measure=>have:=dK.out;simp[intOf];omega
     .rw[decide_eq_false (show ¬pk (bH s) (((i:Nat):Int)+1)=some (UInt8.ofNat 70) from hq)]at hc2
      have hno:jH 0 true (bH s) i=[]:=by
       show gP true (bH s) i=_;rw[gP,if_pos (show(bH s)[i]?=some (wJ true) from hc),if_neg (show ¬pk (bH s) (((i:Nat):Int)+xH true)=some 46 from hp),if_neg (λk=>hq k.1)]
      rw[hno,bq]at hse;have lT:=aH hse;clear hse hln hno hlt;clear hp hq hc hc3 hw2;go_wp2_with (go_at_call 154;refine(jc s _ _).mono ?_;rintro e w2 ⟨rfl,hr⟩;have hm:=hm.to (bS hr);clear hr)
      go_roundw
      case rel=>exact⟨i+1,ss,by go_num,dK.out,hm,aH (by rw[fK.out,lT.out])⟩
      case measure=>have:=dK.out;simp[intOf];omega
   .rw[decide_eq_false (show ¬(bH s)[i]?=some (UInt8.ofNat 84) from hc)]at hb
    have hno:jH 0 true (bH s) i=[]:=(by show gP true (bH s) i=[];exact if_neg hc);rw[hno,bq]at hse;have lT:=aH hse;clear hse hln hno hlt;clear hc hc1 hc2 hc3 hw1 hw2;go_wp2
    go_roundw
    case rel=>exact⟨i+1,ss,by go_num,dK.out,hm,aH (by rw[fK.out,lT.out])⟩
    case measure=>have:=dK.out;simp[intOf];omega
  .have hie:i=s.size:=by omega
   subst hie;go_wp2
   go_ret
   exact⟨_,ss,rfl,hm,by rw[fK.out,lW]⟩
set_option maxHeartbeats 1000000 in
theorem Bg(s:ByteArray)(hs:s.size<=12)(w:World):Calls prog 96 #[.string s,.bool false] w (jJ w (jN 0 false (bH s))):=by
 obtain⟨i0,hi0,hz0,hz1,hz2⟩:=info_parts fO;have hm:=Rs.new w;go_enter Tryz.func96,Tryz.ntmps96
 go_wp2
 go_loopw [8,9,14] (λov _ ii wr=>∃(i:Nat) (ss:List ByteArray),ii=.int .i64 ((i:Nat):Int)/\i<=s.size/\Rs w wr ov ss/\Hid (ss.map bH=qf 0 false (bH s) i)) (λ_ _ ii _=>s.size-(intOf ii).toNat)
 case atStart=>exact⟨0,[],rfl,az _,hm,aH rfl⟩
 case round=>
  clear hm;obtain⟨i,ss,rfl,hi,hm,fK⟩:=hrel;by_cases hlt:i<s.size
  .have h1:((i:Nat):Int)<((s.size:Nat):Int):=by omega
   have dK:=aH hlt;have hb:=NY dK.out 70 70 rfl (by decide);have hse:=jZ 0 false (bH s) i;have hln:=lV 0 false (bH s) i;have hsl:ss.length<=24:=(by have e:=congrArg List.length fK.out;rw[aJ]at e;omega);obtain⟨ao,co,rfl,-,-⟩:=bD hm.own;obtain⟨hw1,hw2⟩:wrap64 (((i:Nat):Int)+(-1))=((i:Nat):Int)+(-1)/\wrap64 (((i:Nat):Int)+2*(-1))=((i:Nat):Int)+2*(-1):=⟨dS (by omega),dS (by omega)⟩;have hc1:=uX s (((i:Nat):Int)+(-1)) 46 46 rfl (by decide) (by decide);have hc2:=uX s (((i:Nat):Int)+(-1)) 84 84 rfl (by decide) (by decide);have hc3:=uX s (((i:Nat):Int)+2*(-1)) 46 46 rfl (by decide) (by decide);rw[show(2:Int)*(-1)=(-2) from rfl]at hw2 hc3;by_cases hc:(bH s)[i]?=some 70
   .rw[decide_eq_true (show(bH s)[i]?=some (UInt8.ofNat 70) from hc)]at hb
    by_cases hp:pk (bH s) (((i:Nat):Int)+(-1))=some 46
    .rw[decide_eq_true (show pk (bH s) (((i:Nat):Int)+(-1))=some (UInt8.ofNat 46) from hp)]at hc1
     obtain⟨j,hj,hj2⟩:=bz.jA.1 hp;have hjl:=bz.fU hj2;rw[bN]at hjl;have hmv:jH 0 false (bH s) i=[((bH s).set i 46).set j 70]:=by
      show gP false (bH s) i=_;rw[gP,if_pos (show(bH s)[i]?=some (wJ false) from hc),if_pos (show pk (bH s) (((i:Nat):Int)+xH false)=some 46 from hp),st2,show((i:Nat):Int)+xH false=((j:Nat):Int) from hj];simp[wJ]
     rw[hmv]at hse;have lT:=aH hse;have hs1:∀w,Calls prog 155 #[.string s,.int .i64 ((i:Nat):Int),.int .u8 46,.int .i64 (((i:Nat):Int)+(-1)),.int .u8 70] w λe w'=>∃u,e=.returned (.string u)/\bH u=((bH s).set i 46).set j 70/\Ext w w':=λw=>by
      rw[hj];exact nR s (by omega) i j dK.out hjl 46 70 w
     have ou:=aH hs1;clear hp hc hs1 hmv hse hln hlt hj hj2 hc2 hc3 hw2
     go_wp2_with (first
      |(go_at_call 154;refine(jc s _ _).mono ?_;rintro e w2 ⟨rfl,hr⟩;have hm:=hm.to (bS hr);clear hr)
      |(go_at_call 155;refine(ou.out _).mono ?_;rintro e w3 ⟨u,rfl,hu,hr⟩;have hm:=hm.to hr;have HU:=aH hu;clear hr hu)
      |(at_builtin;refine bQ rfl (.tmp 29) (.tmp 37) 22 rfl w.heap.size 9 i0 (.string ⟨#[]⟩) 1 16 underlying22 hi0 hz0 hz1 hz2 rfl (by decide) (.slice ao ss.length co) ss.length (ss.map Value.string) rfl (hm.own.alloc _) _ 1 _ [.string u] rfl rfl (.inr ⟨_,rfl,cK (bP _ _ _)⟩) dH (by unfold maxLen;omega) (by omega) (by have:=hm.ext.size;rw[fw];omega) ?_;intro v5 w5 fI hg5 hl5;have hm:=hm.put fI hg5))
     go_roundw
     case rel=>exact⟨i+1,ss++[u],by go_num,dK.out,hm,aH (by rw[aU,fK.out,lT.out];simp[HU.out])⟩
     case measure=>have:=dK.out;simp[intOf];omega
    .rw[decide_eq_false (show ¬pk (bH s) (((i:Nat):Int)+(-1))=some (UInt8.ofNat 46) from hp)]at hc1
     by_cases hq:pk (bH s) (((i:Nat):Int)+(-1))=some 84
     .rw[decide_eq_true (show pk (bH s) (((i:Nat):Int)+(-1))=some (UInt8.ofNat 84) from hq)]at hc2
      by_cases hr:pk (bH s) (((i:Nat):Int)+(-2))=some 46
      .rw[decide_eq_true (show pk (bH s) (((i:Nat):Int)+(-2))=some (UInt8.ofNat 46) from hr)]at hc3
       obtain⟨j,hj,hj2⟩:=bz.jA.1 hr;have hjl:=bz.fU hj2;rw[bN]at hjl;have hmv:jH 0 false (bH s) i=[((bH s).set i 46).set j 70]:=by
        show gP false (bH s) i=_;rw[gP,if_pos (show(bH s)[i]?=some (wJ false) from hc),if_neg (show ¬pk (bH s) (((i:Nat):Int)+xH false)=some 46 from hp),if_pos ⟨show pk (bH s) (((i:Nat):Int)+xH false)=some (OT false) from hq,show pk (bH s) (((i:Nat):Int)+2*xH false)=some 46 from hr⟩,st2,show((i:Nat):Int)+2*xH false=((j:Nat):Int) from hj];simp[wJ]
       rw[hmv]at hse;have lT:=aH hse;have hs1:∀w,Calls prog 155 #[.string s,.int .i64 ((i:Nat):Int),.int .u8 46,.int .i64 (((i:Nat):Int)+(-2)),.int .u8 70] w λe w'=>∃u,e=.returned (.string u)/\bH u=((bH s).set i 46).set j 70/\Ext w w':=λw=>by
        rw[show((i:Nat):Int)+(-2)=((j:Nat):Int) from hj];exact nR s (by omega) i j dK.out hjl 46 70 w
       have ou:=aH hs1;clear hp hq hr hc hs1 hmv hse hln hlt hj hj2
       go_wp2_with (first
        |(go_at_call 154;refine(jc s _ _).mono ?_;rintro e w2 ⟨rfl,hr⟩;have hm:=hm.to (bS hr);clear hr)
        |(go_at_call 155;refine(ou.out _).mono ?_;rintro e w3 ⟨u,rfl,hu,hr⟩;have hm:=hm.to hr;have HU:=aH hu;clear hr hu)
        |(at_builtin;refine bQ rfl (.tmp 56) (.tmp 65) 22 rfl w.heap.size 9 i0 (.string ⟨#[]⟩) 1 16 underlying22 hi0 hz0 hz1 hz2 rfl (by decide) (.slice ao ss.length co) ss.length (ss.map Value.string) rfl (hm.own.alloc _) _ 1 _ [.string u] rfl rfl (.inr ⟨_,rfl,cK (bP _ _ _)⟩) dH (by unfold maxLen;omega) (by omega) (by have:=hm.ext.size;rw[fw];omega) ?_;intro v5 w5 fI hg5 hl5;have hm:=hm.put fI hg5))
       go_roundw
       case rel=>exact⟨i+1,ss++[u],by go_num,dK.out,hm,aH (by rw[aU,fK.out,lT.out];simp[HU.out])⟩
       case measure=>have:=dK.out;simp[intOf];omega
      .rw[decide_eq_false (show ¬pk (bH s) (((i:Nat):Int)+(-2))=some (UInt8.ofNat 46) from hr)]at hc3
       have hno:jH 0 false (bH s) i=[]:=by
        show gP false (bH s) i=_;rw[gP,if_pos (show(bH s)[i]?=some (wJ false) from hc),if_neg (show ¬pk (bH s) (((i:Nat):Int)+xH false)=some 46 from hp),if_neg (λk=>hr k.2)]
       rw[hno,bq]at hse;have lT:=aH hse;clear hse hln hno hlt;clear hp hq hr hc;go_wp2_with (go_at_call 154;refine(jc s _ _).mono ?_;rintro e w2 ⟨rfl,hr⟩;have hm:=hm.to (bS hr);clear hr)
       go_roundw
       case rel=>exact⟨i+1,ss,by go_num,dK.out,hm,aH (by rw[fK.out,lT.out])⟩
       case measure=>have:=dK.out;simp[intOf];omega
     .rw[decide_eq_false (show ¬pk (bH s) (((i:Nat):Int)+(-1))=some (UInt8.ofNat 84) from hq)]at hc2
      have hno:jH 0 false (bH s) i=[]:=by
       show gP false (bH s) i=_;rw[gP,if_pos (show(bH s)[i]?=some (wJ false) from hc),if_neg (show ¬pk (bH s) (((i:Nat):Int)+xH false)=some 46 from hp),if_neg (λk=>hq k.1)]
      rw[hno,bq]at hse;have lT:=aH hse;clear hse hln hno hlt;clear hp hq hc hc3 hw2;go_wp2_with (go_at_call 154;refine(jc s _ _).mono ?_;rintro e w2 ⟨rfl,hr⟩;have hm:=hm.to (bS hr);clear hr)
      go_roundw
      case rel=>exact⟨i+1,ss,by go_num,dK.out,hm,aH (by rw[fK.out,lT.out])⟩
      case measure=>have:=dK.out;simp[intOf];omega
   .rw[decide_eq_false (show ¬(bH s)[i]?=some (UInt8.ofNat 70) from hc)]at hb
    have hno:jH 0 false (bH s) i=[]:=(by show gP false (bH s) i=[];exact if_neg hc);rw[hno,bq]at hse;have lT:=aH hse;clear hse hln hno hlt;clear hc hc1 hc2 hc3 hw1 hw2;go_wp2
    go_roundw
    case rel=>exact⟨i+1,ss,by go_num,dK.out,hm,aH (by rw[fK.out,lT.out])⟩
    case measure=>have:=dK.out;simp[intOf];omega
  .have hie:i=s.size:=by omega
   subst hie;go_wp2
   go_ret
   exact⟨_,ss,rfl,hm,by rw[fK.out,lW]⟩
end
section
open Go.RowKit
open bz (Stp pk o5 J8 tJ fQ lN jH jN rU st2)
theorem clT_0(left:Bool)(s:Stp)(i:Nat):Km left s i (0+1)=Km left s i 0++fQ left s i ((i:Int)-1):=rfl
theorem clT_1(left:Bool)(s:Stp)(i:Nat):Km left s i (1+1)=Km left s i 1++fQ left s i ((i:Int)+1):=rfl
set_option maxHeartbeats 1000000 in
theorem zf(s:ByteArray)(hs:s.size<=12)(w:World):Calls prog 97 #[.string s,.bool true] w (jJ w (jN 1 true (bH s))):=by
 obtain⟨i0,hi0,hz0,hz1,hz2⟩:=info_parts fO;have hm:=Rs.new w;go_enter Tryz.func97,Tryz.ntmps97
 go_wp2_with (go_at_call 95;refine(yo _).mono ?_;rintro e w2 ⟨rfl,hw⟩;rw[hw];clear hw w2)
 go_loopw [7,8,19] (λov _ ii wr=>∃(i:Nat) (ss:List ByteArray),ii=.int .i64 ((i:Nat):Int)/\i<=s.size/\Rs w wr ov ss/\Hid (ss.map bH=qf 1 true (bH s) i)) (λ_ _ ii _=>s.size-(intOf ii).toNat)
 case atStart=>exact⟨0,[],rfl,az _,hm,aH rfl⟩
 case round=>
  clear hm;obtain⟨i,ss,rfl,hi,hm,fK⟩:=hrel;by_cases hlt:i<s.size
  .have h1:((i:Nat):Int)<((s.size:Nat):Int):=by omega
   have dK:=aH hlt;have lT:=aH (jZ 1 true (bH s) i);have pU:=aH (lV 1 true (bH s) i);obtain⟨LF,hwb⟩:wrap64 (((i:Nat):Int)-1)=((i:Nat):Int)-1/\wrap64 (((i:Nat):Int)+1)=((i:Nat):Int)+1:=⟨dS (by omega),dS (by omega)⟩;clear hlt;go_wp2
   obtain⟨wo,hwo⟩:∃wo,wo=wr:=⟨_,rfl⟩;rw[<-hwo]at hm;go_loopw [7,10,27] (λov _ mm wr=>∃(m:Nat) (ss:List ByteArray),mm=.int .i64 ((m:Nat):Int)/\m<=2/\Rs w wr ov ss/\Hid (ss.map bH=qf 1 true (bH s) i++Km true (bH s) i m)) (λ_ _ mm _=>2-(intOf mm).toNat)
   case atStart=>exact⟨0,ss,rfl,by omega,by rw[<-hwo];exact hm,aH (by rw[fK.out];simp[Km])⟩
   case round=>
    clear hm hwo fK;obtain⟨m,ss,rfl,hm2,hm,fK⟩:=hrel;have hcl:=BK true (bH s) i m;have hsl:ss.length<=26:=(by have e:=congrArg List.length fK.out;have:=pU.out;rw[aJ,aj]at e;omega);obtain⟨ao,co,rfl,-,-⟩:=bD hm.own;clear hcl;have AV:m=0\/m=1\/m=2:=(by omega);rcases AV with rfl|rfl|rfl
    .skip
     have ix:∀w,(Instr.index 183 (.agg #[.int .i64 (((i:Nat):Int)-1),.int .i64 (((i:Nat):Int)+1)]) (.int .i64 0)).run prog w=.ok (.int .i64 (((i:Nat):Int)-1)) w:=λ_=>by kernel_rfl
     have ix2:∀w,(Instr.index 183 (.agg #[.int .i64 (((i:Nat):Int)-1),.int .i64 (((i:Nat):Int)+1)]) (.int .i64 ((0:Nat):Int))).run prog w=.ok (.int .i64 (((i:Nat):Int)-1)) w:=λ_=>by kernel_rfl
     have hb:((((s[i]'dK.out).toNat:Nat):Int)== 76)=decide ((bH s)[i]?=some 76):=lg dK.out 76 (by decide);have hcs:=clT_0 true (bH s) i;have hc1:=uX s (((i:Nat):Int)-1) 82 82 rfl (by decide) (by decide);by_cases hc:(bH s)[i]?=some 76
     .rw[decide_eq_true hc]at hb
      by_cases hp:pk (bH s) (((i:Nat):Int)-1)=some 82
      .rw[decide_eq_true (show pk (bH s) (((i:Nat):Int)-1)=some (UInt8.ofNat 82) from hp)]at hc1
       obtain⟨j,hj,hj2⟩:=bz.jA.1 hp;have hjl:=bz.fU hj2;rw[bN]at hjl;have nW:fQ true (bH s) i (((i:Nat):Int)-1)=[((bH s).set i 46).set j 76]:=by
        unfold fQ;rw[if_pos ⟨hc,hp⟩,st2,hj];simp[o5]
       rw[nW]at hcs;have xX:=aH hcs;have hs1:∀w,Calls prog 155 #[.string s,.int .i64 ((i:Nat):Int),.int .u8 46,.int .i64 (((i:Nat):Int)-1),.int .u8 76] w λe w'=>∃u,e=.returned (.string u)/\bH u=((bH s).set i 46).set j 76/\Ext w w':=λw=>by
        rw[hj];exact nR s (by omega) i j dK.out hjl 46 76 w
       have ou:=aH hs1;clear hp hc hs1 nW hcs hj hj2
       go_wp2_with (first
        |(go_at_call 154;refine(jc s _ _).mono ?_;rintro e w2 ⟨rfl,hr⟩;have hm:=hm.to (bS hr);clear hr)
        |(go_at_call 155;refine(ou.out _).mono ?_;rintro e w3 ⟨u,rfl,hu,hr⟩;have hm:=hm.to hr;have HU:=aH hu;clear hr hu)
        |(at_builtin;refine bQ rfl (.tmp 42) (.tmp 48) 22 rfl w.heap.size 9 i0 (.string ⟨#[]⟩) 1 16 underlying22 hi0 hz0 hz1 hz2 rfl (by decide) (.slice ao ss.length co) ss.length (ss.map Value.string) rfl (hm.own.alloc _) _ 1 _ [.string u] rfl rfl (.inr ⟨_,rfl,cK (bP _ _ _)⟩) dH (by unfold maxLen;omega) (by omega) (by have:=hm.ext.size;rw[fw];omega) ?_;intro v5 w5 fI hg5 hl5;have hm:=hm.put fI hg5))
       go_roundw
       case rel=>exact⟨0+1,ss++[u],rfl,by omega,hm,aH (by rw[aU,fK.out,xX.out];simp[HU.out])⟩
       case measure=>simp only[intOf];omega
      .rw[decide_eq_false (show ¬pk (bH s) (((i:Nat):Int)-1)=some (UInt8.ofNat 82) from hp)]at hc1
       have hno:fQ true (bH s) i (((i:Nat):Int)-1)=[]:=if_neg λk=>hp k.2
       rw[hno,bq]at hcs;have xX:=aH hcs;clear hcs hno;clear hp hc;go_wp2_with (go_at_call 154;refine(jc s _ _).mono ?_;rintro e w2 ⟨rfl,hr⟩;have hm:=hm.to (bS hr);clear hr)
       go_roundw
       case rel=>exact⟨0+1,ss,rfl,by omega,hm,aH (by rw[fK.out,xX.out])⟩
       case measure=>simp only[intOf];omega
     .rw[decide_eq_false hc]at hb
      have hno:fQ true (bH s) i (((i:Nat):Int)-1)=[]:=if_neg λk=>hc k.1
      rw[hno,bq]at hcs;have xX:=aH hcs;clear hcs hno;clear hc hc1;go_wp2
      go_roundw
      case rel=>exact⟨0+1,ss,rfl,by omega,hm,aH (by rw[fK.out,xX.out])⟩
      case measure=>simp only[intOf];omega
    .skip
     have ix:∀w,(Instr.index 183 (.agg #[.int .i64 (((i:Nat):Int)-1),.int .i64 (((i:Nat):Int)+1)]) (.int .i64 1)).run prog w=.ok (.int .i64 (((i:Nat):Int)+1)) w:=λ_=>by kernel_rfl
     have ix2:∀w,(Instr.index 183 (.agg #[.int .i64 (((i:Nat):Int)-1),.int .i64 (((i:Nat):Int)+1)]) (.int .i64 ((1:Nat):Int))).run prog w=.ok (.int .i64 (((i:Nat):Int)+1)) w:=λ_=>by kernel_rfl
     have hb:((((s[i]'dK.out).toNat:Nat):Int)== 76)=decide ((bH s)[i]?=some 76):=lg dK.out 76 (by decide);have hcs:=clT_1 true (bH s) i;have hc1:=uX s (((i:Nat):Int)+1) 82 82 rfl (by decide) (by decide);by_cases hc:(bH s)[i]?=some 76
     .rw[decide_eq_true hc]at hb
      by_cases hp:pk (bH s) (((i:Nat):Int)+1)=some 82
      .rw[decide_eq_true (show pk (bH s) (((i:Nat):Int)+1)=some (UInt8.ofNat 82) from hp)]at hc1
       obtain⟨j,hj,hj2⟩:=bz.jA.1 hp;have hjl:=bz.fU hj2;rw[bN]at hjl;have nW:fQ true (bH s) i (((i:Nat):Int)+1)=[((bH s).set i 46).set j 76]:=by
        unfold fQ;rw[if_pos ⟨hc,hp⟩,st2,hj];simp[o5]
       rw[nW]at hcs;have xX:=aH hcs;have hs1:∀w,Calls prog 155 #[.string s,.int .i64 ((i:Nat):Int),.int .u8 46,.int .i64 (((i:Nat):Int)+1),.int .u8 76] w λe w'=>∃u,e=.returned (.string u)/\bH u=((bH s).set i 46).set j 76/\Ext w w':=λw=>by
        rw[hj];exact nR s (by omega) i j dK.out hjl 46 76 w
       have ou:=aH hs1;clear hp hc hs1 nW hcs hj hj2
       go_wp2_with (first
        |(go_at_call 154;refine(jc s _ _).mono ?_;rintro e w2 ⟨rfl,hr⟩;have hm:=hm.to (bS hr);clear hr)
        |(go_at_call 155;refine(ou.out _).mono ?_;rintro e w3 ⟨u,rfl,hu,hr⟩;have hm:=hm.to hr;have HU:=aH hu;clear hr hu)
        |(at_builtin;refine bQ rfl (.tmp 42) (.tmp 48) 22 rfl w.heap.size 9 i0 (.string ⟨#[]⟩) 1 16 underlying22 hi0 hz0 hz1 hz2 rfl (by decide) (.slice ao ss.length co) ss.length (ss.map Value.string) rfl (hm.own.alloc _) _ 1 _ [.string u] rfl rfl (.inr ⟨_,rfl,cK (bP _ _ _)⟩) dH (by unfold maxLen;omega) (by omega) (by have:=hm.ext.size;rw[fw];omega) ?_;intro v5 w5 fI hg5 hl5;have hm:=hm.put fI hg5))
       go_roundw
       case rel=>exact⟨1+1,ss++[u],rfl,by omega,hm,aH (by rw[aU,fK.out,xX.out];simp[HU.out])⟩
       case measure=>simp only[intOf];omega
      .rw[decide_eq_false (show ¬pk (bH s) (((i:Nat):Int)+1)=some (UInt8.ofNat 82) from hp)]at hc1
       have hno:fQ true (bH s) i (((i:Nat):Int)+1)=[]:=if_neg λk=>hp k.2
       rw[hno,bq]at hcs;have xX:=aH hcs;clear hcs hno;clear hp hc;go_wp2_with (go_at_call 154;refine(jc s _ _).mono ?_;rintro e w2 ⟨rfl,hr⟩;have hm:=hm.to (bS hr);clear hr)
       go_roundw
       case rel=>exact⟨1+1,ss,rfl,by omega,hm,aH (by rw[fK.out,xX.out])⟩
       case measure=>simp only[intOf];omega
     .rw[decide_eq_false hc]at hb
      have hno:fQ true (bH s) i (((i:Nat):Int)+1)=[]:=if_neg λk=>hc k.1
      rw[hno,bq]at hcs;have xX:=aH hcs;clear hcs hno;clear hc hc1;go_wp2
      go_roundw
      case rel=>exact⟨1+1,ss,rfl,by omega,hm,aH (by rw[fK.out,xX.out])⟩
      case measure=>simp only[intOf];omega
    .go_wp2
     go_roundw
     case rel=>exact⟨i+1,ss,by go_num,dK.out,hm,aH (by rw[fK.out,lT.out];rfl)⟩
     case measure=>have:=dK.out;simp[intOf];omega
  .have hie:i=s.size:=by omega
   subst hie;go_wp2
   go_ret
   exact⟨_,ss,rfl,hm,by rw[fK.out,lW]⟩
set_option maxHeartbeats 1000000 in
theorem xS(s:ByteArray)(hs:s.size<=12)(w:World):Calls prog 97 #[.string s,.bool false] w (jJ w (jN 1 false (bH s))):=by
 obtain⟨i0,hi0,hz0,hz1,hz2⟩:=info_parts fO;have hm:=Rs.new w;go_enter Tryz.func97,Tryz.ntmps97
 go_wp2_with (go_at_call 95;refine(yn _).mono ?_;rintro e w2 ⟨rfl,hw⟩;rw[hw];clear hw w2)
 go_loopw [7,8,19] (λov _ ii wr=>∃(i:Nat) (ss:List ByteArray),ii=.int .i64 ((i:Nat):Int)/\i<=s.size/\Rs w wr ov ss/\Hid (ss.map bH=qf 1 false (bH s) i)) (λ_ _ ii _=>s.size-(intOf ii).toNat)
 case atStart=>exact⟨0,[],rfl,az _,hm,aH rfl⟩
 case round=>
  clear hm;obtain⟨i,ss,rfl,hi,hm,fK⟩:=hrel;by_cases hlt:i<s.size
  .have h1:((i:Nat):Int)<((s.size:Nat):Int):=by omega
   have dK:=aH hlt;have lT:=aH (jZ 1 false (bH s) i);have pU:=aH (lV 1 false (bH s) i);obtain⟨LF,hwb⟩:wrap64 (((i:Nat):Int)-1)=((i:Nat):Int)-1/\wrap64 (((i:Nat):Int)+1)=((i:Nat):Int)+1:=⟨dS (by omega),dS (by omega)⟩;clear hlt;go_wp2
   obtain⟨wo,hwo⟩:∃wo,wo=wr:=⟨_,rfl⟩;rw[<-hwo]at hm;go_loopw [7,10,27] (λov _ mm wr=>∃(m:Nat) (ss:List ByteArray),mm=.int .i64 ((m:Nat):Int)/\m<=2/\Rs w wr ov ss/\Hid (ss.map bH=qf 1 false (bH s) i++Km false (bH s) i m)) (λ_ _ mm _=>2-(intOf mm).toNat)
   case atStart=>exact⟨0,ss,rfl,by omega,by rw[<-hwo];exact hm,aH (by rw[fK.out];simp[Km])⟩
   case round=>
    clear hm hwo fK;obtain⟨m,ss,rfl,hm2,hm,fK⟩:=hrel;have hcl:=BK false (bH s) i m;have hsl:ss.length<=26:=(by have e:=congrArg List.length fK.out;have:=pU.out;rw[aJ,aj]at e;omega);obtain⟨ao,co,rfl,-,-⟩:=bD hm.own;clear hcl;have AV:m=0\/m=1\/m=2:=(by omega);rcases AV with rfl|rfl|rfl
    .skip
     have ix:∀w,(Instr.index 183 (.agg #[.int .i64 (((i:Nat):Int)-1),.int .i64 (((i:Nat):Int)+1)]) (.int .i64 0)).run prog w=.ok (.int .i64 (((i:Nat):Int)-1)) w:=λ_=>by kernel_rfl
     have ix2:∀w,(Instr.index 183 (.agg #[.int .i64 (((i:Nat):Int)-1),.int .i64 (((i:Nat):Int)+1)]) (.int .i64 ((0:Nat):Int))).run prog w=.ok (.int .i64 (((i:Nat):Int)-1)) w:=λ_=>by kernel_rfl
     have hb:((((s[i]'dK.out).toNat:Nat):Int)== 82)=decide ((bH s)[i]?=some 82):=lg dK.out 82 (by decide);have hcs:=clT_0 false (bH s) i;have hc1:=uX s (((i:Nat):Int)-1) 76 76 rfl (by decide) (by decide);by_cases hc:(bH s)[i]?=some 82
     .rw[decide_eq_true hc]at hb
      by_cases hp:pk (bH s) (((i:Nat):Int)-1)=some 76
      .rw[decide_eq_true (show pk (bH s) (((i:Nat):Int)-1)=some (UInt8.ofNat 76) from hp)]at hc1
       obtain⟨j,hj,hj2⟩:=bz.jA.1 hp;have hjl:=bz.fU hj2;rw[bN]at hjl;have nW:fQ false (bH s) i (((i:Nat):Int)-1)=[((bH s).set i 46).set j 82]:=by
        unfold fQ;rw[if_pos ⟨hc,hp⟩,st2,hj];simp[o5]
       rw[nW]at hcs;have xX:=aH hcs;have hs1:∀w,Calls prog 155 #[.string s,.int .i64 ((i:Nat):Int),.int .u8 46,.int .i64 (((i:Nat):Int)-1),.int .u8 82] w λe w'=>∃u,e=.returned (.string u)/\bH u=((bH s).set i 46).set j 82/\Ext w w':=λw=>by
        rw[hj];exact nR s (by omega) i j dK.out hjl 46 82 w
       have ou:=aH hs1;clear hp hc hs1 nW hcs hj hj2
       go_wp2_with (first
        |(go_at_call 154;refine(jc s _ _).mono ?_;rintro e w2 ⟨rfl,hr⟩;have hm:=hm.to (bS hr);clear hr)
        |(go_at_call 155;refine(ou.out _).mono ?_;rintro e w3 ⟨u,rfl,hu,hr⟩;have hm:=hm.to hr;have HU:=aH hu;clear hr hu)
        |(at_builtin;refine bQ rfl (.tmp 42) (.tmp 48) 22 rfl w.heap.size 9 i0 (.string ⟨#[]⟩) 1 16 underlying22 hi0 hz0 hz1 hz2 rfl (by decide) (.slice ao ss.length co) ss.length (ss.map Value.string) rfl (hm.own.alloc _) _ 1 _ [.string u] rfl rfl (.inr ⟨_,rfl,cK (bP _ _ _)⟩) dH (by unfold maxLen;omega) (by omega) (by have:=hm.ext.size;rw[fw];omega) ?_;intro v5 w5 fI hg5 hl5;have hm:=hm.put fI hg5))
       go_roundw
       case rel=>exact⟨0+1,ss++[u],rfl,by omega,hm,aH (by rw[aU,fK.out,xX.out];simp[HU.out])⟩
       case measure=>simp only[intOf];omega
      .rw[decide_eq_false (show ¬pk (bH s) (((i:Nat):Int)-1)=some (UInt8.ofNat 76) from hp)]at hc1
       have hno:fQ false (bH s) i (((i:Nat):Int)-1)=[]:=if_neg λk=>hp k.2
       rw[hno,bq]at hcs;have xX:=aH hcs;clear hcs hno;clear hp hc;go_wp2_with (go_at_call 154;refine(jc s _ _).mono ?_;rintro e w2 ⟨rfl,hr⟩;have hm:=hm.to (bS hr);clear hr)
       go_roundw
       case rel=>exact⟨0+1,ss,rfl,by omega,hm,aH (by rw[fK.out,xX.out])⟩
       case measure=>simp only[intOf];omega
     .rw[decide_eq_false hc]at hb
      have hno:fQ false (bH s) i (((i:Nat):Int)-1)=[]:=if_neg λk=>hc k.1
      rw[hno,bq]at hcs;have xX:=aH hcs;clear hcs hno;clear hc hc1;go_wp2
      go_roundw
      case rel=>exact⟨0+1,ss,rfl,by omega,hm,aH (by rw[fK.out,xX.out])⟩
      case measure=>simp only[intOf];omega
    .skip
     have ix:∀w,(Instr.index 183 (.agg #[.int .i64 (((i:Nat):Int)-1),.int .i64 (((i:Nat):Int)+1)]) (.int .i64 1)).run prog w=.ok (.int .i64 (((i:Nat):Int)+1)) w:=λ_=>by kernel_rfl
     have ix2:∀w,(Instr.index 183 (.agg #[.int .i64 (((i:Nat):Int)-1),.int .i64 (((i:Nat):Int)+1)]) (.int .i64 ((1:Nat):Int))).run prog w=.ok (.int .i64 (((i:Nat):Int)+1)) w:=λ_=>by kernel_rfl
     have hb:((((s[i]'dK.out).toNat:Nat):Int)== 82)=decide ((bH s)[i]?=some 82):=lg dK.out 82 (by decide);have hcs:=clT_1 false (bH s) i;have hc1:=uX s (((i:Nat):Int)+1) 76 76 rfl (by decide) (by decide);by_cases hc:(bH s)[i]?=some 82
     .rw[decide_eq_true hc]at hb
      by_cases hp:pk (bH s) (((i:Nat):Int)+1)=some 76
      .rw[decide_eq_true (show pk (bH s) (((i:Nat):Int)+1)=some (UInt8.ofNat 76) from hp)]at hc1
       obtain⟨j,hj,hj2⟩:=bz.jA.1 hp;have hjl:=bz.fU hj2;rw[bN]at hjl;have nW:fQ false (bH s) i (((i:Nat):Int)+1)=[((bH s).set i 46).set j 82]:=by
        unfold fQ;rw[if_pos ⟨hc,hp⟩,st2,hj];simp[o5]
       rw[nW]at hcs;have xX:=aH hcs;have hs1:∀w,Calls prog 155 #[.string s,.int .i64 ((i:Nat):Int),.int .u8 46,.int .i64 (((i:Nat):Int)+1),.int .u8 82] w λe w'=>∃u,e=.returned (.string u)/\bH u=((bH s).set i 46).set j 82/\Ext w w':=λw=>by
        rw[hj];exact nR s (by omega) i j dK.out hjl 46 82 w
       have ou:=aH hs1;clear hp hc hs1 nW hcs hj hj2
       go_wp2_with (first
        |(go_at_call 154;refine(jc s _ _).mono ?_;rintro e w2 ⟨rfl,hr⟩;have hm:=hm.to (bS hr);clear hr)
        |(go_at_call 155;refine(ou.out _).mono ?_;rintro e w3 ⟨u,rfl,hu,hr⟩;have hm:=hm.to hr;have HU:=aH hu;clear hr hu)
        |(at_builtin;refine bQ rfl (.tmp 42) (.tmp 48) 22 rfl w.heap.size 9 i0 (.string ⟨#[]⟩) 1 16 underlying22 hi0 hz0 hz1 hz2 rfl (by decide) (.slice ao ss.length co) ss.length (ss.map Value.string) rfl (hm.own.alloc _) _ 1 _ [.string u] rfl rfl (.inr ⟨_,rfl,cK (bP _ _ _)⟩) dH (by unfold maxLen;omega) (by omega) (by have:=hm.ext.size;rw[fw];omega) ?_;intro v5 w5 fI hg5 hl5;have hm:=hm.put fI hg5))
       go_roundw
       case rel=>exact⟨1+1,ss++[u],rfl,by omega,hm,aH (by rw[aU,fK.out,xX.out];simp[HU.out])⟩
       case measure=>simp only[intOf];omega
      .rw[decide_eq_false (show ¬pk (bH s) (((i:Nat):Int)+1)=some (UInt8.ofNat 76) from hp)]at hc1
       have hno:fQ false (bH s) i (((i:Nat):Int)+1)=[]:=if_neg λk=>hp k.2
       rw[hno,bq]at hcs;have xX:=aH hcs;clear hcs hno;clear hp hc;go_wp2_with (go_at_call 154;refine(jc s _ _).mono ?_;rintro e w2 ⟨rfl,hr⟩;have hm:=hm.to (bS hr);clear hr)
       go_roundw
       case rel=>exact⟨1+1,ss,rfl,by omega,hm,aH (by rw[fK.out,xX.out])⟩
       case measure=>simp only[intOf];omega
     .rw[decide_eq_false hc]at hb
      have hno:fQ false (bH s) i (((i:Nat):Int)+1)=[]:=if_neg λk=>hc k.1
      rw[hno,bq]at hcs;have xX:=aH hcs;clear hcs hno;clear hc hc1;go_wp2
      go_roundw
      case rel=>exact⟨1+1,ss,rfl,by omega,hm,aH (by rw[fK.out,xX.out])⟩
      case measure=>simp only[intOf];omega
    .go_wp2
     go_roundw
     case rel=>exact⟨i+1,ss,by go_num,dK.out,hm,aH (by rw[fK.out,lT.out];rfl)⟩
     case measure=>have:=dK.out;simp[intOf];omega
  .have hie:i=s.size:=by omega
   subst hie;go_wp2
   go_ret
   exact⟨_,ss,rfl,hm,by rw[fK.out,lW]⟩
end
end Go.Proofs.YteknjeohbcgpdaaGreatDoor