/-
  Contract of the reference's l23Raw.
-/
import Derived.Test.YteknjeohbcgpdaaGreatDoorK20
set_option maxRecDepth 100000
namespace Go.Proofs.YteknjeohbcgpdaaGreatDoor
open Tryz
open Go.RowKit
open bz (Stp dots runs yu jW piece)
variable {s:ByteArray} {i:Nat}
theorem uY(h:i<s.size):((((s[i]'h).toNat:Nat):Int)== 46)=decide ((bH s)[i]?=some 46):=lg h 46 (by decide)
theorem Gw(h:i<s.size):((((s[i]'h).toNat:Nat):Int) != 46)=!decide ((bH s)[i]?=some 46):=by
 rw[bne,uY h]
set_option maxHeartbeats 1000000 in
theorem l23Raw_2(s:ByteArray)(hs:s.size<=12)(w:World):Calls prog 102 #[.int .i64 2,.string s] w (jJ w (runs none (bH s))):=by
 obtain⟨i0,hi0,hz0,hz1,hz2⟩:=info_parts fO;have hm:=Rs.new w;go_enter Tryz.func102,Tryz.ntmps102
 go_wp2
 go_loopw [5,6] (λov ii wr=>∃(i:Nat) (ss:List ByteArray),ii=.int .i64 ((i:Nat):Int)/\i<=s.size/\ss.length<=i/\Rs w wr ov ss/\Hid (runs none (bH s)=ss.map bH++yu (bH s) i)) (λ_ ii _=>s.size-(intOf ii).toNat)
 case atStart=>exact⟨0,[],rfl,az _,az _,hm,aH (by rw[bz.Ch];rfl)⟩
 case round=>
  clear hm;obtain⟨i,ss,rfl,hi,hsl,hm,fK⟩:=hrel;obtain⟨ao,co,rfl,-,-⟩:=bD hm.own;by_cases hlt:i<s.size
  .have h1:((i:Nat):Int)<((s.size:Nat):Int):=by omega
   have dK:=aH hlt;have hb:=Gw dK.out;have hwb:wrap64 (((i:Nat):Int)+1)=((i:Nat):Int)+1:=dS (by omega);by_cases hc:(bH s)[i]?=some 46
   .rw[decide_eq_true hc]at hb
    by_cases TK:i=0
    .have HC:=aH hc
     have H0:Hid (i=0\/(bH s)[i-1]?≠some 46):=aH (.inl TK);have hgt:¬(0:Int)<((i:Nat):Int):=(by omega);clear hc hlt TK;go_upto_region 11 with fail
     clear hb;go_wp2
     go_loopw [7] (λee wr=>∃e:Nat,ee=.int .i64 ((e:Nat):Int)/\i<=e/\e<=s.size/\Rs w wr (.slice ao ss.length co) ss/\Hid (∀q,i<=q->q<e->(bH s)[q]?=some 46)) (λee _=>s.size-(intOf ee).toNat)
     case atStart=>exact⟨i,by go_num,ai _,hi,hm,aH λj h1 h2=>by omega⟩
     case round=>
      clear hm;obtain⟨e,rfl,hie,hes,hm,HE⟩:=hrel;have xu:wrap64 (((e:Nat):Int)+1)=((e:Nat):Int)+1:=dS (by omega);by_cases hel:e<s.size
      .have h3:((e:Nat):Int)<((s.size:Nat):Int):=by omega
       have Ei:=aH hel;have hb:=uY Ei.out;by_cases hc:(bH s)[e]?=some 46
       .rw[decide_eq_true hc]at hb
        have UZ:=aH hc;clear hc hel;go_wp2
        go_roundw
        case rel=>exact⟨e+1,by go_num,by omega,Ei.out,hm,aH λk h1 h2=>by
         by_cases q:k=e
         .subst q;exact UZ.out
         .exact HE.out k h1 (by omega)⟩
        case measure=>have:=Ei.out;simp[intOf];omega
       .have HX:=aH hc
        rw[decide_eq_false hc]at hb;clear hc hel;go_upto_region 14 with fail
        have oF:i<e:=by
         rcases dX i e with q|q
         .exact q
         .have q2:e=i:=by omega
          subst q2;exact absurd HC.out HX.out
        have hrr:=bz.oI oF HE.out HX.out H0.out;have HRR:=aH hrr;have hlp:=hrr.2.2;rw[bN]at hlp;obtain⟨pa,C8⟩:∃pa,pa=i-1:=⟨_,rfl⟩;obtain⟨pb,hpb⟩:∃pb,pb=min (e+1) s.size:=⟨_,rfl⟩;have g1:((pa:Nat):Int)<=((pb:Nat):Int):=(by omega);have g2:((pb:Nat):Int)<=((s.size:Nat):Int):=(by omega);have hmx:max (((i:Nat):Int)-1) 0=((pa:Nat):Int):=(by omega);have wM:(if ((e:Nat):Int)+1<((s.size:Nat):Int)then((e:Nat):Int)+1 else((s.size:Nat):Int))=((pb:Nat):Int):=(by split <;> omega);have Sl:wrap64 (((i:Nat):Int)-1)=((i:Nat):Int)-1:=dS (by omega);have hpc:bH (s.extract pa pb)=piece (bH s) i e:=(by rw[lh,piece,C8,hpb,bN]);have Ai:=aH hpc;have Fu:=aH wM;have L1:∀w,Calls prog 158 #[.int .i64 (((i:Nat):Int)-1),.int .i64 0] w λe w'=>e=.returned (.int .i64 ((pa:Nat):Int))/\RD w w':=λw=>by
         have:=jL (((i:Nat):Int)-1) 0 w;rw[hmx]at this;exact this
        have L2:∀w,Calls prog 159 #[.int .i64 (((e:Nat):Int)+1),.int .i64 ((s.size:Nat):Int)] w λx w'=>x=.returned (.int .i64 ((pb:Nat):Int))/\w'=w:=λw=>by
         have:=lF (((e:Nat):Int)+1) ((s.size:Nat):Int) w;rw[Fu.out]at this;exact this
        have LA:=aH L1;have LB:=aH L2;have Eh:=aH hlp;clear wM hmx L1 L2 hpc hrr C8 hpb
        go_wp2_with (first
         |(go_at_call 158;refine(LA.out _).mono ?_;rintro e w2 ⟨rfl,hr⟩;have hm:=hm.to (bS hr);clear hr)
         |(go_at_call 159;refine(LB.out _).mono ?_;rintro e w2 ⟨rfl,rfl⟩)
         |(at_builtin;refine bQ rfl (.tmp 52) (.tmp 63) 22 rfl w.heap.size 9 i0 (.string ⟨#[]⟩) 1 16 underlying22 hi0 hz0 hz1 hz2 rfl (by decide) (.slice ao ss.length co) ss.length (ss.map Value.string) rfl (hm.own.alloc _) _ 1 _ [.string (s.extract pa pb)] rfl rfl (.inr ⟨_,rfl,cK (bP _ _ _)⟩) dH (by unfold maxLen;omega) (by omega) (by have:=hm.ext.size;rw[fw];omega) ?_;intro v5 w5 fI hg5 hl5;have hm:=hm.put fI hg5))
        go_roundw
        case rel=>exact⟨i+1,ss++[s.extract pa pb],by go_num,dK.out,by rw[aj,bV];omega,hm,aH (by rw[fK.out,HRR.out.1];simp[Ai.out])⟩
        case measure=>have:=dK.out;simp[intOf];omega
      .have h3:¬((e:Nat):Int)<((s.size:Nat):Int):=by omega
       have HX:Hid ((bH s)[e]?≠some 46):=aH λk=>hel (by have:=bz.fU k;rw[bN]at this;exact this)
       clear hel;go_upto_region 14 with fail
       have oF:i<e:=by
        rcases dX i e with q|q
        .exact q
        .have q2:e=i:=by omega
         subst q2;exact absurd HC.out HX.out
       have hrr:=bz.oI oF HE.out HX.out H0.out;have HRR:=aH hrr;have hlp:=hrr.2.2;rw[bN]at hlp;obtain⟨pa,C8⟩:∃pa,pa=i-1:=⟨_,rfl⟩;obtain⟨pb,hpb⟩:∃pb,pb=min (e+1) s.size:=⟨_,rfl⟩;have g1:((pa:Nat):Int)<=((pb:Nat):Int):=(by omega);have g2:((pb:Nat):Int)<=((s.size:Nat):Int):=(by omega);have hmx:max (((i:Nat):Int)-1) 0=((pa:Nat):Int):=(by omega);have wM:(if ((e:Nat):Int)+1<((s.size:Nat):Int)then((e:Nat):Int)+1 else((s.size:Nat):Int))=((pb:Nat):Int):=(by split <;> omega);have Sl:wrap64 (((i:Nat):Int)-1)=((i:Nat):Int)-1:=dS (by omega);have hpc:bH (s.extract pa pb)=piece (bH s) i e:=(by rw[lh,piece,C8,hpb,bN]);have Ai:=aH hpc;have Fu:=aH wM;have L1:∀w,Calls prog 158 #[.int .i64 (((i:Nat):Int)-1),.int .i64 0] w λe w'=>e=.returned (.int .i64 ((pa:Nat):Int))/\RD w w':=λw=>by
        have:=jL (((i:Nat):Int)-1) 0 w;rw[hmx]at this;exact this
       have L2:∀w,Calls prog 159 #[.int .i64 (((e:Nat):Int)+1),.int .i64 ((s.size:Nat):Int)] w λx w'=>x=.returned (.int .i64 ((pb:Nat):Int))/\w'=w:=λw=>by
        have:=lF (((e:Nat):Int)+1) ((s.size:Nat):Int) w;rw[Fu.out]at this;exact this
       have LA:=aH L1;have LB:=aH L2;have Eh:=aH hlp;clear wM hmx L1 L2 hpc hrr C8 hpb
       go_wp2_with (first
        |(go_at_call 158;refine(LA.out _).mono ?_;rintro e w2 ⟨rfl,hr⟩;have hm:=hm.to (bS hr);clear hr)
        |(go_at_call 159;refine(LB.out _).mono ?_;rintro e w2 ⟨rfl,rfl⟩)
        |(at_builtin;refine bQ rfl (.tmp 52) (.tmp 63) 22 rfl w.heap.size 9 i0 (.string ⟨#[]⟩) 1 16 underlying22 hi0 hz0 hz1 hz2 rfl (by decide) (.slice ao ss.length co) ss.length (ss.map Value.string) rfl (hm.own.alloc _) _ 1 _ [.string (s.extract pa pb)] rfl rfl (.inr ⟨_,rfl,cK (bP _ _ _)⟩) dH (by unfold maxLen;omega) (by omega) (by have:=hm.ext.size;rw[fw];omega) ?_;intro v5 w5 fI hg5 hl5;have hm:=hm.put fI hg5))
       go_roundw
       case rel=>exact⟨i+1,ss++[s.extract pa pb],by go_num,dK.out,by rw[aj,bV];omega,hm,aH (by rw[fK.out,HRR.out.1];simp[Ai.out])⟩
       case measure=>have:=dK.out;simp[intOf];omega
    .have hps:i-1<s.size:=by omega
     have hgt:(0:Int)<((i:Nat):Int):=(by omega);have hbj:=uY hps;have hw1:wrap64 (((i:Nat):Int)-1)=((i:Nat):Int)-1:=dS (by omega);have h2:((i:Nat):Int)-1<((s.size:Nat):Int):=(by omega);have h3:(0:Int)<=((i:Nat):Int)-1:=(by omega);have h4:(((i:Nat):Int)-1).toNat=i-1:=(by omega);by_cases hp:(bH s)[i-1]?=some 46
     .have Xk:=aH (bz.Q7 hc (by omega) hp).symm
      rw[decide_eq_true hp]at hbj;clear hc hp hlt TK;go_wp2
      go_roundw
      case rel=>exact⟨i+1,ss,by go_num,dK.out,by omega,hm,aH (by rw[fK.out,Xk.out])⟩
      case measure=>have:=dK.out;simp[intOf];omega
     .rw[decide_eq_false hp]at hbj
      have HC:=aH hc;have H0:Hid (i=0\/(bH s)[i-1]?≠some 46):=aH (.inr hp);clear hc hp hlt TK;go_upto_region 11 with fail
      generalize (s[i-1]'hps).toNat=vj;clear hw1 hbj h2 h3 h4 hps;clear hb;go_wp2
      go_loopw [7] (λee wr=>∃e:Nat,ee=.int .i64 ((e:Nat):Int)/\i<=e/\e<=s.size/\Rs w wr (.slice ao ss.length co) ss/\Hid (∀q,i<=q->q<e->(bH s)[q]?=some 46)) (λee _=>s.size-(intOf ee).toNat)
      case atStart=>exact⟨i,by go_num,ai _,hi,hm,aH λj h1 h2=>by omega⟩
      case round=>
       clear hm;obtain⟨e,rfl,hie,hes,hm,HE⟩:=hrel;have xu:wrap64 (((e:Nat):Int)+1)=((e:Nat):Int)+1:=dS (by omega);by_cases hel:e<s.size
       .have h3:((e:Nat):Int)<((s.size:Nat):Int):=by omega
        have Ei:=aH hel;have hb:=uY Ei.out;by_cases hc:(bH s)[e]?=some 46
        .rw[decide_eq_true hc]at hb
         have UZ:=aH hc;clear hc hel;go_wp2
         go_roundw
         case rel=>exact⟨e+1,by go_num,by omega,Ei.out,hm,aH λk h1 h2=>by
          by_cases q:k=e
          .subst q;exact UZ.out
          .exact HE.out k h1 (by omega)⟩
         case measure=>have:=Ei.out;simp[intOf];omega
        .have HX:=aH hc
         rw[decide_eq_false hc]at hb;clear hc hel;go_upto_region 14 with fail
         have oF:i<e:=by
          rcases dX i e with q|q
          .exact q
          .have q2:e=i:=by omega
           subst q2;exact absurd HC.out HX.out
         have hrr:=bz.oI oF HE.out HX.out H0.out;have HRR:=aH hrr;have hlp:=hrr.2.2;rw[bN]at hlp;obtain⟨pa,C8⟩:∃pa,pa=i-1:=⟨_,rfl⟩;obtain⟨pb,hpb⟩:∃pb,pb=min (e+1) s.size:=⟨_,rfl⟩;have g1:((pa:Nat):Int)<=((pb:Nat):Int):=(by omega);have g2:((pb:Nat):Int)<=((s.size:Nat):Int):=(by omega);have hmx:max (((i:Nat):Int)-1) 0=((pa:Nat):Int):=(by omega);have wM:(if ((e:Nat):Int)+1<((s.size:Nat):Int)then((e:Nat):Int)+1 else((s.size:Nat):Int))=((pb:Nat):Int):=(by split <;> omega);have Sl:wrap64 (((i:Nat):Int)-1)=((i:Nat):Int)-1:=dS (by omega);have hpc:bH (s.extract pa pb)=piece (bH s) i e:=(by rw[lh,piece,C8,hpb,bN]);have Ai:=aH hpc;have Fu:=aH wM;have L1:∀w,Calls prog 158 #[.int .i64 (((i:Nat):Int)-1),.int .i64 0] w λe w'=>e=.returned (.int .i64 ((pa:Nat):Int))/\RD w w':=λw=>by
          have:=jL (((i:Nat):Int)-1) 0 w;rw[hmx]at this;exact this
         have L2:∀w,Calls prog 159 #[.int .i64 (((e:Nat):Int)+1),.int .i64 ((s.size:Nat):Int)] w λx w'=>x=.returned (.int .i64 ((pb:Nat):Int))/\w'=w:=λw=>by
          have:=lF (((e:Nat):Int)+1) ((s.size:Nat):Int) w;rw[Fu.out]at this;exact this
         have LA:=aH L1;have LB:=aH L2;have Eh:=aH hlp;clear wM hmx L1 L2 hpc hrr C8 hpb
         go_wp2_with (first
          |(go_at_call 158;refine(LA.out _).mono ?_;rintro e w2 ⟨rfl,hr⟩;have hm:=hm.to (bS hr);clear hr)
          |(go_at_call 159;refine(LB.out _).mono ?_;rintro e w2 ⟨rfl,rfl⟩)
          |(at_builtin;refine bQ rfl (.tmp 52) (.tmp 63) 22 rfl w.heap.size 9 i0 (.string ⟨#[]⟩) 1 16 underlying22 hi0 hz0 hz1 hz2 rfl (by decide) (.slice ao ss.length co) ss.length (ss.map Value.string) rfl (hm.own.alloc _) _ 1 _ [.string (s.extract pa pb)] rfl rfl (.inr ⟨_,rfl,cK (bP _ _ _)⟩) dH (by unfold maxLen;omega) (by omega) (by have:=hm.ext.size;rw[fw];omega) ?_;intro v5 w5 fI hg5 hl5;have hm:=hm.put fI hg5))
         go_roundw
         case rel=>exact⟨i+1,ss++[s.extract pa pb],by go_num,dK.out,by rw[aj,bV];omega,hm,aH (by rw[fK.out,HRR.out.1];simp[Ai.out])⟩
         case measure=>have:=dK.out;simp[intOf];omega
       .have h3:¬((e:Nat):Int)<((s.size:Nat):Int):=by omega
        have HX:Hid ((bH s)[e]?≠some 46):=aH λk=>hel (by have:=bz.fU k;rw[bN]at this;exact this)
        clear hel;go_upto_region 14 with fail
        have oF:i<e:=by
         rcases dX i e with q|q
         .exact q
         .have q2:e=i:=by omega
          subst q2;exact absurd HC.out HX.out
        have hrr:=bz.oI oF HE.out HX.out H0.out;have HRR:=aH hrr;have hlp:=hrr.2.2;rw[bN]at hlp;obtain⟨pa,C8⟩:∃pa,pa=i-1:=⟨_,rfl⟩;obtain⟨pb,hpb⟩:∃pb,pb=min (e+1) s.size:=⟨_,rfl⟩;have g1:((pa:Nat):Int)<=((pb:Nat):Int):=(by omega);have g2:((pb:Nat):Int)<=((s.size:Nat):Int):=(by omega);have hmx:max (((i:Nat):Int)-1) 0=((pa:Nat):Int):=(by omega);have wM:(if ((e:Nat):Int)+1<((s.size:Nat):Int)then((e:Nat):Int)+1 else((s.size:Nat):Int))=((pb:Nat):Int):=(by split <;> omega);have Sl:wrap64 (((i:Nat):Int)-1)=((i:Nat):Int)-1:=dS (by omega);have hpc:bH (s.extract pa pb)=piece (bH s) i e:=(by rw[lh,piece,C8,hpb,bN]);have Ai:=aH hpc;have Fu:=aH wM;have L1:∀w,Calls prog 158 #[.int .i64 (((i:Nat):Int)-1),.int .i64 0] w λe w'=>e=.returned (.int .i64 ((pa:Nat):Int))/\RD w w':=λw=>by
         have:=jL (((i:Nat):Int)-1) 0 w;rw[hmx]at this;exact this
        have L2:∀w,Calls prog 159 #[.int .i64 (((e:Nat):Int)+1),.int .i64 ((s.size:Nat):Int)] w λx w'=>x=.returned (.int .i64 ((pb:Nat):Int))/\w'=w:=λw=>by
         have:=lF (((e:Nat):Int)+1) ((s.size:Nat):Int) w;rw[Fu.out]at this;exact this
        have LA:=aH L1;have LB:=aH L2;have Eh:=aH hlp;clear wM hmx L1 L2 hpc hrr C8 hpb
        go_wp2_with (first
         |(go_at_call 158;refine(LA.out _).mono ?_;rintro e w2 ⟨rfl,hr⟩;have hm:=hm.to (bS hr);clear hr)
         |(go_at_call 159;refine(LB.out _).mono ?_;rintro e w2 ⟨rfl,rfl⟩)
         |(at_builtin;refine bQ rfl (.tmp 52) (.tmp 63) 22 rfl w.heap.size 9 i0 (.string ⟨#[]⟩) 1 16 underlying22 hi0 hz0 hz1 hz2 rfl (by decide) (.slice ao ss.length co) ss.length (ss.map Value.string) rfl (hm.own.alloc _) _ 1 _ [.string (s.extract pa pb)] rfl rfl (.inr ⟨_,rfl,cK (bP _ _ _)⟩) dH (by unfold maxLen;omega) (by omega) (by have:=hm.ext.size;rw[fw];omega) ?_;intro v5 w5 fI hg5 hl5;have hm:=hm.put fI hg5))
        go_roundw
        case rel=>exact⟨i+1,ss++[s.extract pa pb],by go_num,dK.out,by rw[aj,bV];omega,hm,aH (by rw[fK.out,HRR.out.1];simp[Ai.out])⟩
        case measure=>have:=dK.out;simp[intOf];omega
   .rw[decide_eq_false hc]at hb
    have Xk:=aH (bz.Ci (jT hlt) (λk=>hc (by rw[jT hlt,k]))).symm;clear hc hlt;go_wp2
    go_roundw
    case rel=>exact⟨i+1,ss,by go_num,dK.out,by omega,hm,aH (by rw[fK.out,Xk.out])⟩
    case measure=>have:=dK.out;simp[intOf];omega
  .have hie:i=s.size:=by omega
   subst hie;go_wp2
   go_ret
   exact⟨_,ss,rfl,hm,by rw[fK.out,bz.FP (by rw[bN];exact ai _),bq]⟩
set_option maxHeartbeats 1000000 in
theorem l23Raw_3(s:ByteArray)(hs:s.size<=12)(w:World):Calls prog 102 #[.int .i64 3,.string s] w (jJ w (runs none (bH s))):=by
 obtain⟨i0,hi0,hz0,hz1,hz2⟩:=info_parts fO;have hm:=Rs.new w;go_enter Tryz.func102,Tryz.ntmps102
 go_wp2
 go_loopw [5,6] (λov ii wr=>∃(i:Nat) (ss:List ByteArray),ii=.int .i64 ((i:Nat):Int)/\i<=s.size/\ss.length<=i/\Rs w wr ov ss/\Hid (runs none (bH s)=ss.map bH++yu (bH s) i)) (λ_ ii _=>s.size-(intOf ii).toNat)
 case atStart=>exact⟨0,[],rfl,az _,az _,hm,aH (by rw[bz.Ch];rfl)⟩
 case round=>
  clear hm;obtain⟨i,ss,rfl,hi,hsl,hm,fK⟩:=hrel;obtain⟨ao,co,rfl,-,-⟩:=bD hm.own;by_cases hlt:i<s.size
  .have h1:((i:Nat):Int)<((s.size:Nat):Int):=by omega
   have dK:=aH hlt;have hb:=Gw dK.out;have hwb:wrap64 (((i:Nat):Int)+1)=((i:Nat):Int)+1:=dS (by omega);by_cases hc:(bH s)[i]?=some 46
   .rw[decide_eq_true hc]at hb
    by_cases TK:i=0
    .have HC:=aH hc
     have H0:Hid (i=0\/(bH s)[i-1]?≠some 46):=aH (.inl TK);have hgt:¬(0:Int)<((i:Nat):Int):=(by omega);clear hc hlt TK;go_upto_region 11 with fail
     clear hb;go_wp2
     go_loopw [7] (λee wr=>∃e:Nat,ee=.int .i64 ((e:Nat):Int)/\i<=e/\e<=s.size/\Rs w wr (.slice ao ss.length co) ss/\Hid (∀q,i<=q->q<e->(bH s)[q]?=some 46)) (λee _=>s.size-(intOf ee).toNat)
     case atStart=>exact⟨i,by go_num,ai _,hi,hm,aH λj h1 h2=>by omega⟩
     case round=>
      clear hm;obtain⟨e,rfl,hie,hes,hm,HE⟩:=hrel;have xu:wrap64 (((e:Nat):Int)+1)=((e:Nat):Int)+1:=dS (by omega);by_cases hel:e<s.size
      .have h3:((e:Nat):Int)<((s.size:Nat):Int):=by omega
       have Ei:=aH hel;have hb:=uY Ei.out;by_cases hc:(bH s)[e]?=some 46
       .rw[decide_eq_true hc]at hb
        have UZ:=aH hc;clear hc hel;go_wp2
        go_roundw
        case rel=>exact⟨e+1,by go_num,by omega,Ei.out,hm,aH λk h1 h2=>by
         by_cases q:k=e
         .subst q;exact UZ.out
         .exact HE.out k h1 (by omega)⟩
        case measure=>have:=Ei.out;simp[intOf];omega
       .have HX:=aH hc
        rw[decide_eq_false hc]at hb;clear hc hel;go_upto_region 14 with fail
        have oF:i<e:=by
         rcases dX i e with q|q
         .exact q
         .have q2:e=i:=by omega
          subst q2;exact absurd HC.out HX.out
        have hrr:=bz.oI oF HE.out HX.out H0.out;have HRR:=aH hrr;have hlp:=hrr.2.2;rw[bN]at hlp;obtain⟨pa,C8⟩:∃pa,pa=i-1:=⟨_,rfl⟩;obtain⟨pb,hpb⟩:∃pb,pb=min (e+1) s.size:=⟨_,rfl⟩;have g1:((pa:Nat):Int)<=((pb:Nat):Int):=(by omega);have g2:((pb:Nat):Int)<=((s.size:Nat):Int):=(by omega);have hmx:max (((i:Nat):Int)-1) 0=((pa:Nat):Int):=(by omega);have wM:(if ((e:Nat):Int)+1<((s.size:Nat):Int)then((e:Nat):Int)+1 else((s.size:Nat):Int))=((pb:Nat):Int):=(by split <;> omega);have Sl:wrap64 (((i:Nat):Int)-1)=((i:Nat):Int)-1:=dS (by omega);have hpc:bH (s.extract pa pb)=piece (bH s) i e:=(by rw[lh,piece,C8,hpb,bN]);have Ai:=aH hpc;have Fu:=aH wM;have L1:∀w,Calls prog 158 #[.int .i64 (((i:Nat):Int)-1),.int .i64 0] w λe w'=>e=.returned (.int .i64 ((pa:Nat):Int))/\RD w w':=λw=>by
         have:=jL (((i:Nat):Int)-1) 0 w;rw[hmx]at this;exact this
        have L2:∀w,Calls prog 159 #[.int .i64 (((e:Nat):Int)+1),.int .i64 ((s.size:Nat):Int)] w λx w'=>x=.returned (.int .i64 ((pb:Nat):Int))/\w'=w:=λw=>by
         have:=lF (((e:Nat):Int)+1) ((s.size:Nat):Int) w;rw[Fu.out]at this;exact this
        have LA:=aH L1;have LB:=aH L2;have Eh:=aH hlp;clear wM hmx L1 L2 hpc hrr C8 hpb
        go_wp2_with (first
         |(go_at_call 158;refine(LA.out _).mono ?_;rintro e w2 ⟨rfl,hr⟩;have hm:=hm.to (bS hr);clear hr)
         |(go_at_call 159;refine(LB.out _).mono ?_;rintro e w2 ⟨rfl,rfl⟩)
         |(at_builtin;refine bQ rfl (.tmp 52) (.tmp 63) 22 rfl w.heap.size 9 i0 (.string ⟨#[]⟩) 1 16 underlying22 hi0 hz0 hz1 hz2 rfl (by decide) (.slice ao ss.length co) ss.length (ss.map Value.string) rfl (hm.own.alloc _) _ 1 _ [.string (s.extract pa pb)] rfl rfl (.inr ⟨_,rfl,cK (bP _ _ _)⟩) dH (by unfold maxLen;omega) (by omega) (by have:=hm.ext.size;rw[fw];omega) ?_;intro v5 w5 fI hg5 hl5;have hm:=hm.put fI hg5))
        go_roundw
        case rel=>exact⟨i+1,ss++[s.extract pa pb],by go_num,dK.out,by rw[aj,bV];omega,hm,aH (by rw[fK.out,HRR.out.1];simp[Ai.out])⟩
        case measure=>have:=dK.out;simp[intOf];omega
      .have h3:¬((e:Nat):Int)<((s.size:Nat):Int):=by omega
       have HX:Hid ((bH s)[e]?≠some 46):=aH λk=>hel (by have:=bz.fU k;rw[bN]at this;exact this)
       clear hel;go_upto_region 14 with fail
       have oF:i<e:=by
        rcases dX i e with q|q
        .exact q
        .have q2:e=i:=by omega
         subst q2;exact absurd HC.out HX.out
       have hrr:=bz.oI oF HE.out HX.out H0.out;have HRR:=aH hrr;have hlp:=hrr.2.2;rw[bN]at hlp;obtain⟨pa,C8⟩:∃pa,pa=i-1:=⟨_,rfl⟩;obtain⟨pb,hpb⟩:∃pb,pb=min (e+1) s.size:=⟨_,rfl⟩;have g1:((pa:Nat):Int)<=((pb:Nat):Int):=(by omega);have g2:((pb:Nat):Int)<=((s.size:Nat):Int):=(by omega);have hmx:max (((i:Nat):Int)-1) 0=((pa:Nat):Int):=(by omega);have wM:(if ((e:Nat):Int)+1<((s.size:Nat):Int)then((e:Nat):Int)+1 else((s.size:Nat):Int))=((pb:Nat):Int):=(by split <;> omega);have Sl:wrap64 (((i:Nat):Int)-1)=((i:Nat):Int)-1:=dS (by omega);have hpc:bH (s.extract pa pb)=piece (bH s) i e:=(by rw[lh,piece,C8,hpb,bN]);have Ai:=aH hpc;have Fu:=aH wM;have L1:∀w,Calls prog 158 #[.int .i64 (((i:Nat):Int)-1),.int .i64 0] w λe w'=>e=.returned (.int .i64 ((pa:Nat):Int))/\RD w w':=λw=>by
        have:=jL (((i:Nat):Int)-1) 0 w;rw[hmx]at this;exact this
       have L2:∀w,Calls prog 159 #[.int .i64 (((e:Nat):Int)+1),.int .i64 ((s.size:Nat):Int)] w λx w'=>x=.returned (.int .i64 ((pb:Nat):Int))/\w'=w:=λw=>by
        have:=lF (((e:Nat):Int)+1) ((s.size:Nat):Int) w;rw[Fu.out]at this;exact this
       have LA:=aH L1;have LB:=aH L2;have Eh:=aH hlp;clear wM hmx L1 L2 hpc hrr C8 hpb
       go_wp2_with (first
        |(go_at_call 158;refine(LA.out _).mono ?_;rintro e w2 ⟨rfl,hr⟩;have hm:=hm.to (bS hr);clear hr)
        |(go_at_call 159;refine(LB.out _).mono ?_;rintro e w2 ⟨rfl,rfl⟩)
        |(at_builtin;refine bQ rfl (.tmp 52) (.tmp 63) 22 rfl w.heap.size 9 i0 (.string ⟨#[]⟩) 1 16 underlying22 hi0 hz0 hz1 hz2 rfl (by decide) (.slice ao ss.length co) ss.length (ss.map Value.string) rfl (hm.own.alloc _) _ 1 _ [.string (s.extract pa pb)] rfl rfl (.inr ⟨_,rfl,cK (bP _ _ _)⟩) dH (by unfold maxLen;omega) (by omega) (by have:=hm.ext.size;rw[fw];omega) ?_;intro v5 w5 fI hg5 hl5;have hm:=hm.put fI hg5))
       go_roundw
       case rel=>exact⟨i+1,ss++[s.extract pa pb],by go_num,dK.out,by rw[aj,bV];omega,hm,aH (by rw[fK.out,HRR.out.1];simp[Ai.out])⟩
       case measure=>have:=dK.out;simp[intOf];omega
    .have hps:i-1<s.size:=by omega
     have hgt:(0:Int)<((i:Nat):Int):=(by omega);have hbj:=uY hps;have hw1:wrap64 (((i:Nat):Int)-1)=((i:Nat):Int)-1:=dS (by omega);have h2:((i:Nat):Int)-1<((s.size:Nat):Int):=(by omega);have h3:(0:Int)<=((i:Nat):Int)-1:=(by omega);have h4:(((i:Nat):Int)-1).toNat=i-1:=(by omega);by_cases hp:(bH s)[i-1]?=some 46
     .have Xk:=aH (bz.Q7 hc (by omega) hp).symm
      rw[decide_eq_true hp]at hbj;clear hc hp hlt TK;go_wp2
      go_roundw
      case rel=>exact⟨i+1,ss,by go_num,dK.out,by omega,hm,aH (by rw[fK.out,Xk.out])⟩
      case measure=>have:=dK.out;simp[intOf];omega
     .rw[decide_eq_false hp]at hbj
      have HC:=aH hc;have H0:Hid (i=0\/(bH s)[i-1]?≠some 46):=aH (.inr hp);clear hc hp hlt TK;go_upto_region 11 with fail
      generalize (s[i-1]'hps).toNat=vj;clear hw1 hbj h2 h3 h4 hps;clear hb;go_wp2
      go_loopw [7] (λee wr=>∃e:Nat,ee=.int .i64 ((e:Nat):Int)/\i<=e/\e<=s.size/\Rs w wr (.slice ao ss.length co) ss/\Hid (∀q,i<=q->q<e->(bH s)[q]?=some 46)) (λee _=>s.size-(intOf ee).toNat)
      case atStart=>exact⟨i,by go_num,ai _,hi,hm,aH λj h1 h2=>by omega⟩
      case round=>
       clear hm;obtain⟨e,rfl,hie,hes,hm,HE⟩:=hrel;have xu:wrap64 (((e:Nat):Int)+1)=((e:Nat):Int)+1:=dS (by omega);by_cases hel:e<s.size
       .have h3:((e:Nat):Int)<((s.size:Nat):Int):=by omega
        have Ei:=aH hel;have hb:=uY Ei.out;by_cases hc:(bH s)[e]?=some 46
        .rw[decide_eq_true hc]at hb
         have UZ:=aH hc;clear hc hel;go_wp2
         go_roundw
         case rel=>exact⟨e+1,by go_num,by omega,Ei.out,hm,aH λk h1 h2=>by
          by_cases q:k=e
          .subst q;exact UZ.out
          .exact HE.out k h1 (by omega)⟩
         case measure=>have:=Ei.out;simp[intOf];omega
        .have HX:=aH hc
         rw[decide_eq_false hc]at hb;clear hc hel;go_upto_region 14 with fail
         have oF:i<e:=by
          rcases dX i e with q|q
          .exact q
          .have q2:e=i:=by omega
           subst q2;exact absurd HC.out HX.out
         have hrr:=bz.oI oF HE.out HX.out H0.out;have HRR:=aH hrr;have hlp:=hrr.2.2;rw[bN]at hlp;obtain⟨pa,C8⟩:∃pa,pa=i-1:=⟨_,rfl⟩;obtain⟨pb,hpb⟩:∃pb,pb=min (e+1) s.size:=⟨_,rfl⟩;have g1:((pa:Nat):Int)<=((pb:Nat):Int):=(by omega);have g2:((pb:Nat):Int)<=((s.size:Nat):Int):=(by omega);have hmx:max (((i:Nat):Int)-1) 0=((pa:Nat):Int):=(by omega);have wM:(if ((e:Nat):Int)+1<((s.size:Nat):Int)then((e:Nat):Int)+1 else((s.size:Nat):Int))=((pb:Nat):Int):=(by split <;> omega);have Sl:wrap64 (((i:Nat):Int)-1)=((i:Nat):Int)-1:=dS (by omega);have hpc:bH (s.extract pa pb)=piece (bH s) i e:=(by rw[lh,piece,C8,hpb,bN]);have Ai:=aH hpc;have Fu:=aH wM;have L1:∀w,Calls prog 158 #[.int .i64 (((i:Nat):Int)-1),.int .i64 0] w λe w'=>e=.returned (.int .i64 ((pa:Nat):Int))/\RD w w':=λw=>by
          have:=jL (((i:Nat):Int)-1) 0 w;rw[hmx]at this;exact this
         have L2:∀w,Calls prog 159 #[.int .i64 (((e:Nat):Int)+1),.int .i64 ((s.size:Nat):Int)] w λx w'=>x=.returned (.int .i64 ((pb:Nat):Int))/\w'=w:=λw=>by
          have:=lF (((e:Nat):Int)+1) ((s.size:Nat):Int) w;rw[Fu.out]at this;exact this
         have LA:=aH L1;have LB:=aH L2;have Eh:=aH hlp;clear wM hmx L1 L2 hpc hrr C8 hpb
         go_wp2_with (first
          |(go_at_call 158;refine(LA.out _).mono ?_;rintro e w2 ⟨rfl,hr⟩;have hm:=hm.to (bS hr);clear hr)
          |(go_at_call 159;refine(LB.out _).mono ?_;rintro e w2 ⟨rfl,rfl⟩)
          |(at_builtin;refine bQ rfl (.tmp 52) (.tmp 63) 22 rfl w.heap.size 9 i0 (.string ⟨#[]⟩) 1 16 underlying22 hi0 hz0 hz1 hz2 rfl (by decide) (.slice ao ss.length co) ss.length (ss.map Value.string) rfl (hm.own.alloc _) _ 1 _ [.string (s.extract pa pb)] rfl rfl (.inr ⟨_,rfl,cK (bP _ _ _)⟩) dH (by unfold maxLen;omega) (by omega) (by have:=hm.ext.size;rw[fw];omega) ?_;intro v5 w5 fI hg5 hl5;have hm:=hm.put fI hg5))
         go_roundw
         case rel=>exact⟨i+1,ss++[s.extract pa pb],by go_num,dK.out,by rw[aj,bV];omega,hm,aH (by rw[fK.out,HRR.out.1];simp[Ai.out])⟩
         case measure=>have:=dK.out;simp[intOf];omega
       .have h3:¬((e:Nat):Int)<((s.size:Nat):Int):=by omega
        have HX:Hid ((bH s)[e]?≠some 46):=aH λk=>hel (by have:=bz.fU k;rw[bN]at this;exact this)
        clear hel;go_upto_region 14 with fail
        have oF:i<e:=by
         rcases dX i e with q|q
         .exact q
         .have q2:e=i:=by omega
          subst q2;exact absurd HC.out HX.out
        have hrr:=bz.oI oF HE.out HX.out H0.out;have HRR:=aH hrr;have hlp:=hrr.2.2;rw[bN]at hlp;obtain⟨pa,C8⟩:∃pa,pa=i-1:=⟨_,rfl⟩;obtain⟨pb,hpb⟩:∃pb,pb=min (e+1) s.size:=⟨_,rfl⟩;have g1:((pa:Nat):Int)<=((pb:Nat):Int):=(by omega);have g2:((pb:Nat):Int)<=((s.size:Nat):Int):=(by omega);have hmx:max (((i:Nat):Int)-1) 0=((pa:Nat):Int):=(by omega);have wM:(if ((e:Nat):Int)+1<((s.size:Nat):Int)then((e:Nat):Int)+1 else((s.size:Nat):Int))=((pb:Nat):Int):=(by split <;> omega);have Sl:wrap64 (((i:Nat):Int)-1)=((i:Nat):Int)-1:=dS (by omega);have hpc:bH (s.extract pa pb)=piece (bH s) i e:=(by rw[lh,piece,C8,hpb,bN]);have Ai:=aH hpc;have Fu:=aH wM;have L1:∀w,Calls prog 158 #[.int .i64 (((i:Nat):Int)-1),.int .i64 0] w λe w'=>e=.returned (.int .i64 ((pa:Nat):Int))/\RD w w':=λw=>by
         have:=jL (((i:Nat):Int)-1) 0 w;rw[hmx]at this;exact this
        have L2:∀w,Calls prog 159 #[.int .i64 (((e:Nat):Int)+1),.int .i64 ((s.size:Nat):Int)] w λx w'=>x=.returned (.int .i64 ((pb:Nat):Int))/\w'=w:=λw=>by
         have:=lF (((e:Nat):Int)+1) ((s.size:Nat):Int) w;rw[Fu.out]at this;exact this
        have LA:=aH L1;have LB:=aH L2;have Eh:=aH hlp;clear wM hmx L1 L2 hpc hrr C8 hpb
        go_wp2_with (first
         |(go_at_call 158;refine(LA.out _).mono ?_;rintro e w2 ⟨rfl,hr⟩;have hm:=hm.to (bS hr);clear hr)
         |(go_at_call 159;refine(LB.out _).mono ?_;rintro e w2 ⟨rfl,rfl⟩)
         |(at_builtin;refine bQ rfl (.tmp 52) (.tmp 63) 22 rfl w.heap.size 9 i0 (.string ⟨#[]⟩) 1 16 underlying22 hi0 hz0 hz1 hz2 rfl (by decide) (.slice ao ss.length co) ss.length (ss.map Value.string) rfl (hm.own.alloc _) _ 1 _ [.string (s.extract pa pb)] rfl rfl (.inr ⟨_,rfl,cK (bP _ _ _)⟩) dH (by unfold maxLen;omega) (by omega) (by have:=hm.ext.size;rw[fw];omega) ?_;intro v5 w5 fI hg5 hl5;have hm:=hm.put fI hg5))
        go_roundw
        case rel=>exact⟨i+1,ss++[s.extract pa pb],by go_num,dK.out,by rw[aj,bV];omega,hm,aH (by rw[fK.out,HRR.out.1];simp[Ai.out])⟩
        case measure=>have:=dK.out;simp[intOf];omega
   .rw[decide_eq_false hc]at hb
    have Xk:=aH (bz.Ci (jT hlt) (λk=>hc (by rw[jT hlt,k]))).symm;clear hc hlt;go_wp2
    go_roundw
    case rel=>exact⟨i+1,ss,by go_num,dK.out,by omega,hm,aH (by rw[fK.out,Xk.out])⟩
    case measure=>have:=dK.out;simp[intOf];omega
  .have hie:i=s.size:=by omega
   subst hie;go_wp2
   go_ret
   exact⟨_,ss,rfl,hm,by rw[fK.out,bz.FP (by rw[bN];exact ai _),bq]⟩
theorem Rs.one(w:World)(s:ByteArray):Rs w (w.alloc (.cells #[.string s] 9)) (.slice (some ⟨w.heap.size,0,none⟩) 1 1) [s]:=
 ⟨World.ownsRow_lit w (base:=w.heap.size) (e:=9) (size:=1) #[.string s] 1 (ai _) (by decide) (by simp),bK (Below.refl _ _) _⟩
theorem Lp{k:Nat}(hk:k<=3)(s:ByteArray)(hs:s.size<=12)(w:World):Calls prog 102 #[.int .i64 ((k:Nat):Int),.string s] w (jJ w (jW k (bH s))):=by
 match k,hk with
 | 0,_=>
  have hm:=Rs.one w s;go_enter Tryz.func102,Tryz.ntmps102
  go_wp2
  go_ret
  exact⟨_,_,rfl,hm,rfl⟩
 | 1,_=>
  go_enter Tryz.func102,Tryz.ntmps102
  go_wp2_with (go_at_call 157;refine(Jj s hs _).mono ?_;rintro e w2 hr;obtain⟨a,ss,cap,rfl,hm,hl,hn⟩:=hr.open;have HL:=aH hl;clear hn hl)
  go_ret
  exact⟨_,ss,rfl,hm,HL.out⟩
 | 2,_=>exact l23Raw_2 s hs w
 | 3,_=>exact l23Raw_3 s hs w
end Go.Proofs.YteknjeohbcgpdaaGreatDoor