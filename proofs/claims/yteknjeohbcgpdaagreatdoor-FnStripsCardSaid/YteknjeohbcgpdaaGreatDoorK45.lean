/-
  Contracts of the program's isOver and emptyRuns. (2 texts.)
-/
import Derived.Test.YteknjeohbcgpdaaGreatDoorK21
import Derived.Test.YteknjeohbcgpdaaGreatDoorK44
set_option maxRecDepth 100000
namespace Go.Proofs.YteknjeohbcgpdaaGreatDoor
open Tryz
section
open Go.RowKit
open bz (Stp pk o5 J8 jH jN rU kC lN runs yu piece)
variable {k:Nat}
theorem yH(hk:2<=k)(left:Bool)(s:ByteArray):F6 (o5 left) (rU k left) (bH s) s.size=jN k left (bH s):=by
 unfold F6 jN;rw[bN];congr 1;funext i;exact(iV hk left (bH s) i).symm
set_option maxHeartbeats 1000000 in
theorem ll(hk:k<=3)(left:Bool)(s:ByteArray)(hs:s.size<=12)(w:World):Calls prog 55 #[.int .i64 ((k:Nat):Int),.string s,.bool left] w (jJ w (jN k left (bH s))):=by
 match k,hk with
 | 0,_=>
  cases left with
  |true=>
   have HC:=aH (λw=>BV s hs w);go_enter Tryz.func55,Tryz.ntmps55
   go_wp2_with (first
    |(go_at_call 95;refine(yo _).mono ?_;rintro e w2 ⟨rfl,hw⟩;rw[hw];clear hw w2)
    |(go_at_call 96;refine(HC.out _).mono ?_;rintro e w2 hr;obtain⟨a,ss,cap,rfl,hm,hl,hn⟩:=hr.open;have HL:=aH hl;clear hr hl hn))
   go_ret
   exact⟨_,ss,rfl,hm,HL.out⟩
  |false=>
   have HC:=aH (λw=>Bg s hs w);go_enter Tryz.func55,Tryz.ntmps55
   go_wp2_with (first
    |(go_at_call 95;refine(yn _).mono ?_;rintro e w2 ⟨rfl,hw⟩;rw[hw];clear hw w2)
    |(go_at_call 96;refine(HC.out _).mono ?_;rintro e w2 hr;obtain⟨a,ss,cap,rfl,hm,hl,hn⟩:=hr.open;have HL:=aH hl;clear hr hl hn))
   go_ret
   exact⟨_,ss,rfl,hm,HL.out⟩
 | 1,_=>
  cases left with
  |true=>
   have HC:=aH (λw=>zf s hs w);go_enter Tryz.func55,Tryz.ntmps55
   go_wp2_with (first
    |(go_at_call 95;refine(yo _).mono ?_;rintro e w2 ⟨rfl,hw⟩;rw[hw];clear hw w2)
    |(go_at_call 97;refine(HC.out _).mono ?_;rintro e w2 hr;obtain⟨a,ss,cap,rfl,hm,hl,hn⟩:=hr.open;have HL:=aH hl;clear hr hl hn))
   go_ret
   exact⟨_,ss,rfl,hm,HL.out⟩
  |false=>
   have HC:=aH (λw=>xS s hs w);go_enter Tryz.func55,Tryz.ntmps55
   go_wp2_with (first
    |(go_at_call 95;refine(yn _).mono ?_;rintro e w2 ⟨rfl,hw⟩;rw[hw];clear hw w2)
    |(go_at_call 97;refine(HC.out _).mono ?_;rintro e w2 hr;obtain⟨a,ss,cap,rfl,hm,hl,hn⟩:=hr.open;have HL:=aH hl;clear hr hl hn))
   go_ret
   exact⟨_,ss,rfl,hm,HL.out⟩
 | 2,_=>
  cases left with
  |true=>
   have hc:∀w,Calls prog 98 #[.string s,.int .u8 76,.int .u8 76] w (jJ w (jN 2 true (bH s))):=λw=>by rw[<-yH (by decide)];exact oN s hs 76 76 (by decide) w
   have HC:=aH hc;clear hc;go_enter Tryz.func55,Tryz.ntmps55
   go_wp2_with (first
    |(go_at_call 95;refine(yo _).mono ?_;rintro e w2 ⟨rfl,hw⟩;rw[hw];clear hw w2)
    |(go_at_call 98;refine(HC.out _).mono ?_;rintro e w2 hr;obtain⟨a,ss,cap,rfl,hm,hl,hn⟩:=hr.open;have HL:=aH hl;clear hr hl hn))
   go_ret
   exact⟨_,ss,rfl,hm,HL.out⟩
  |false=>
   have hc:∀w,Calls prog 98 #[.string s,.int .u8 82,.int .u8 82] w (jJ w (jN 2 false (bH s))):=λw=>by rw[<-yH (by decide)];exact oN s hs 82 82 (by decide) w
   have HC:=aH hc;clear hc;go_enter Tryz.func55,Tryz.ntmps55
   go_wp2_with (first
    |(go_at_call 95;refine(yn _).mono ?_;rintro e w2 ⟨rfl,hw⟩;rw[hw];clear hw w2)
    |(go_at_call 98;refine(HC.out _).mono ?_;rintro e w2 hr;obtain⟨a,ss,cap,rfl,hm,hl,hn⟩:=hr.open;have HL:=aH hl;clear hr hl hn))
   go_ret
   exact⟨_,ss,rfl,hm,HL.out⟩
 | 3,_=>
  cases left with
  |true=>
   have hc:∀w,Calls prog 98 #[.string s,.int .u8 76,.int .u8 82] w (jJ w (jN 3 true (bH s))):=λw=>by rw[<-yH (by decide)];exact oN s hs 76 82 (by decide) w
   have HC:=aH hc;clear hc;go_enter Tryz.func55,Tryz.ntmps55
   go_wp2_with (first
    |(go_at_call 95;refine(yo _).mono ?_;rintro e w2 ⟨rfl,hw⟩;rw[hw];clear hw w2)
    |(go_at_call 98;refine(HC.out _).mono ?_;rintro e w2 hr;obtain⟨a,ss,cap,rfl,hm,hl,hn⟩:=hr.open;have HL:=aH hl;clear hr hl hn))
   go_ret
   exact⟨_,ss,rfl,hm,HL.out⟩
  |false=>
   have hc:∀w,Calls prog 98 #[.string s,.int .u8 82,.int .u8 76] w (jJ w (jN 3 false (bH s))):=λw=>by rw[<-yH (by decide)];exact oN s hs 82 76 (by decide) w
   have HC:=aH hc;clear hc;go_enter Tryz.func55,Tryz.ntmps55
   go_wp2_with (first
    |(go_at_call 95;refine(yn _).mono ?_;rintro e w2 ⟨rfl,hw⟩;rw[hw];clear hw w2)
    |(go_at_call 98;refine(HC.out _).mono ?_;rintro e w2 hr;obtain⟨a,ss,cap,rfl,hm,hl,hn⟩:=hr.open;have HL:=aH hl;clear hr hl hn))
   go_ret
   exact⟨_,ss,rfl,hm,HL.out⟩
end
section
open Go.RowKit
open bz (Stp jN kC runs yu piece)
set_option maxHeartbeats 1000000 in
theorem sZ{k:Nat}(hk:k<=3)(s:ByteArray)(hs:s.size<=12)(w:World):Calls prog 101 #[.int .i64 ((k:Nat):Int),.string s] w λe w'=>e=.returned (.bool (kC k (bH s)))/\Ext w w':=by
 unfold kC;cases h1:(jN k true (bH s)).isEmpty with
 |false=>
  go_enter Tryz.func101,Tryz.ntmps101
  go_wp2_with (go_at_call 55;refine(ll hk true s hs _).mono ?_;rintro e w2 hr;obtain⟨a,ss,cap,rfl,hm,hl,hn⟩:=hr.open;have hb:=qQ hn;rw[h1]at hb;clear hn hl)
  go_ret
  exact⟨rfl,hm.ext⟩
 |true=>
  have Od:=aH (Eq.refl 0);cases h2:(jN k false (bH s)).isEmpty with
  |false=>
   go_enter Tryz.func101,Tryz.ntmps101
   go_wp2_with (first
    |(clear Od;go_at_call 55;refine(ll hk true s hs _).mono ?_;rintro e w2 hr;obtain⟨a,ss,cap,rfl,hm,hl,hn⟩:=hr.open;have hb:=qQ hn;rw[h1]at hb;clear hn hl)
    |(go_at_call 55;refine(ll hk false s hs _).mono ?_;rintro e w3 hr;obtain⟨a2,zw,cap2,rfl,hm2,hl,hn⟩:=hr.open;have hb2:=qQ hn;rw[h2]at hb2;clear hn hl))
   go_ret
   exact⟨rfl,ay hm.ext hm2.ext⟩
  |true=>
   go_enter Tryz.func101,Tryz.ntmps101
   go_wp2_with (first
    |(clear Od;go_at_call 55;refine(ll hk true s hs _).mono ?_;rintro e w2 hr;obtain⟨a,ss,cap,rfl,hm,hl,hn⟩:=hr.open;have hb:=qQ hn;rw[h1]at hb;clear hn hl)
    |(go_at_call 55;refine(ll hk false s hs _).mono ?_;rintro e w3 hr;obtain⟨a2,zw,cap2,rfl,hm2,hl,hn⟩:=hr.open;have hb2:=qQ hn;rw[h2]at hb2;clear hn hl))
   go_ret
   exact⟨rfl,ay hm.ext hm2.ext⟩
theorem NS(s:ByteArray):s.extract 0 s.size=s:=by simp
theorem zC{s:ByteArray}{x y:Int}{a b:Nat}(w:World)(h0:0<=x)(h1:x<=y)(h2:y<=((s.size:Nat):Int))(ha:x.toNat=a)(hb:y.toNat=b):(Instr.slice 9 (.string s) (some (.int .i64 x)) (some (.int .i64 y)) none).run prog w=.ok (.string (s.extract a b)) w:=by
 subst ha;subst hb;exact run_slice_string (P:=prog) w 9 s .i64 .i64 x y underlying9 h0 h1 h2
set_option maxHeartbeats 1000000 in
theorem xz(s:ByteArray)(hs:s.size<=12)(w:World):Calls prog 100 #[.string s] w (jJ w (runs none (bH s))):=by
 obtain⟨i0,hi0,hz0,hz1,hz2⟩:=info_parts fO;have hm:=Rs.new w;go_enter Tryz.func100,Tryz.ntmps100
 go_wp2
 go_loopw [3,4] (λov ii wr=>∃(i:Nat) (ss:List ByteArray),ii=.int .i64 ((i:Nat):Int)/\i<=s.size/\ss.length<=i/\Rs w wr ov ss/\Hid (runs none (bH s)=ss.map bH++yu (bH s) i)/\Hid ((bH s)[i]?=some 46->i=0\/(bH s)[i-1]?≠some 46)) (λ_ ii _=>s.size-(intOf ii).toNat)
 case atStart=>exact⟨0,[],rfl,az _,az _,hm,aH (by rw[bz.Ch];rfl),aH λ_=>.inl rfl⟩
 case round=>
  clear hm;obtain⟨i,ss,rfl,hi,hsl,hm,fK,H0⟩:=hrel;obtain⟨ao,co,rfl,-,-⟩:=bD hm.own;by_cases hlt:i<s.size
  .have h1:((i:Nat):Int)<((s.size:Nat):Int):=by omega
   have dK:=aH hlt;have hb:=Gw dK.out;have hwb:wrap64 (((i:Nat):Int)+1)=((i:Nat):Int)+1:=dS (by omega);by_cases hc:(bH s)[i]?=some 46
   .rw[decide_eq_true hc]at hb
    have HC:=aH hc;clear hc hlt;go_upto_region 6 with fail
    clear hb;go_wp2
    go_loopw [5] (λee wr=>∃e:Nat,ee=.int .i64 ((e:Nat):Int)/\i<=e/\e<=s.size/\Rs w wr (.slice ao ss.length co) ss/\Hid (∀q,i<=q->q<e->(bH s)[q]?=some 46)) (λee _=>s.size-(intOf ee).toNat)
    case atStart=>exact⟨i,by go_num,ai _,hi,hm,aH λj h1 h2=>by omega⟩
    case round=>
     clear hm;obtain⟨e,rfl,hie,hes,hm,HE⟩:=hrel;have xu:wrap64 (((e:Nat):Int)+1)=((e:Nat):Int)+1:=dS (by omega);by_cases hel:e<s.size
     .have h3:((e:Nat):Int)<((s.size:Nat):Int):=by omega
      have Ei:=aH hel;have hb:=uY Ei.out;by_cases hc:(bH s)[e]?=some 46
      .rw[decide_eq_true hc]at hb
       have UZ:=aH hc;clear hc hel;go_wp2
       go_roundw
       case rel=>exact⟨e+1,by go_num,by omega,Ei.out,hm,aH λk h1 h2=>by
        by_cases q:k=e
        .subst q;exact UZ.out
        .exact HE.out k h1 (by omega)⟩
       case measure=>have:=Ei.out;simp[intOf];omega
      .have HX:=aH hc
       rw[decide_eq_false hc]at hb;clear hc hel;go_upto_region 9 with fail
       have oF:i<e:=by
        rcases dX i e with q|q
        .exact q
        .have q2:e=i:=by omega
         subst q2;exact absurd HC.out HX.out
       have hrr:=bz.oI oF HE.out HX.out (H0.out HC.out);have HRR:=aH hrr;have hlp:=hrr.2.2;rw[bN]at hlp;have Sl:wrap64 (((i:Nat):Int)-1)=((i:Nat):Int)-1:=dS (by omega);have Eh:=aH hlp;have GY:=aH oF;by_cases q1:1<i
       .have q1':(0:Int)<((i:Nat):Int)-1:=by omega
        have mx1 : max (0 : Int) (((i : Nat) : Int) - 1) = ((i : Nat) : Int) - 1 := (by omega)
        have r1:(0:Int)<=((i:Nat):Int)-1:=(by omega);have r2:(((i:Nat):Int)-1).toNat=i-1:=(by omega);by_cases q2:e+1<s.size
        .have q2':((e:Nat):Int)+1<((s.size:Nat):Int):=by omega
         have mn1 : min ((s.size : Nat) : Int) (((e : Nat) : Int) + 1) = ((e : Nat) : Int) + 1 := (by omega)
         have r3:(((e:Nat):Int)+1).toNat=e+1:=(by omega);have r4:((i:Nat):Int)-1<=((e:Nat):Int)+1:=(by omega);have rsl:∀w,(Instr.slice 9 (.string s) (some (.int .i64 (((i:Nat):Int)-1))) (some (.int .i64 (((e:Nat):Int)+1))) none).run prog w=.ok (.string (s.extract (i-1) (e+1))) w:=λw=>zC w (by omega) (by omega) (by omega) (by omega) (by omega)
         have r5:((e:Nat):Int)+1<=((s.size:Nat):Int):=(by omega);have r6:(0:Int)<=((e:Nat):Int)+1:=(by omega);have QE:Hid (min (e+1) s.size=e+1):=aH (by omega);clear hrr hlp oF q1 q2;have hpc:bH (s.extract (i-1) (e+1))=piece (bH s) i e:=by
          have h:bH (s.extract (i-1) (e+1))=piece (bH s) i e:=(by rw[lh,piece,bN,QE.out];(try rw[bN]));(exact h)
         have Ai:=aH hpc;clear hpc;go_wp2_with (at_builtin;refine bQ rfl (.tmp 30) (.tmp 41) 22 rfl w.heap.size 9 i0 (.string ⟨#[]⟩) 1 16 underlying22 hi0 hz0 hz1 hz2 rfl (by decide) (.slice ao ss.length co) ss.length (ss.map Value.string) rfl (hm.own.alloc _) _ 1 _ [.string (s.extract (i-1) (e+1))] rfl rfl (.inr ⟨_,rfl,cK (bP _ _ _)⟩) dH (by unfold maxLen;omega) (by omega) (by have:=hm.ext.size;rw[fw];omega) ?_;intro v5 w5 fI hg5 hl5;have hm:=hm.put fI hg5)
         go_roundw
         case rel=>exact⟨e,ss++[(s.extract (i-1) (e+1))],rfl,Eh.out,by have:=GY.out;rw[aj,bV];omega,hm,aH (by
          have z:(ss++[(s.extract (i-1) (e+1))]).map bH=ss.map bH++[piece (bH s) i e]:=(by rw[aU];exact congrArg (λz=>ss.map bH++[z]) Ai.out);rw[z,fK.out,HRR.out.1,HRR.out.2.1,bY];rfl),aH λk=>absurd k HX.out⟩
         case measure=>have:=GY.out;have:=Eh.out;simp[intOf];omega
        .have q2':¬((e:Nat):Int)+1<((s.size:Nat):Int):=by omega
         have mn1 : min ((s.size : Nat) : Int) (((e : Nat) : Int) + 1) = ((s.size : Nat) : Int) := (by omega)
         have r4:((i:Nat):Int)-1<=((s.size:Nat):Int):=(by omega);have rsl:∀w,(Instr.slice 9 (.string s) (some (.int .i64 (((i:Nat):Int)-1))) (some (.int .i64 ((s.size:Nat):Int))) none).run prog w=.ok (.string (s.extract (i-1) s.size)) w:=λw=>zC w (by omega) (by omega) (by omega) (by omega) (by omega)
         have QE:Hid (min (e+1) s.size=s.size):=aH (by omega);clear hrr hlp oF q1 q2;have hpc:bH (s.extract (i-1) s.size)=piece (bH s) i e:=by
          have h:bH (s.extract (i-1) s.size)=piece (bH s) i e:=(by rw[lh,piece,bN,QE.out];(try rw[bN]));(exact h)
         have Ai:=aH hpc;clear hpc;go_wp2_with (at_builtin;refine bQ rfl (.tmp 30) (.tmp 41) 22 rfl w.heap.size 9 i0 (.string ⟨#[]⟩) 1 16 underlying22 hi0 hz0 hz1 hz2 rfl (by decide) (.slice ao ss.length co) ss.length (ss.map Value.string) rfl (hm.own.alloc _) _ 1 _ [.string (s.extract (i-1) s.size)] rfl rfl (.inr ⟨_,rfl,cK (bP _ _ _)⟩) dH (by unfold maxLen;omega) (by omega) (by have:=hm.ext.size;rw[fw];omega) ?_;intro v5 w5 fI hg5 hl5;have hm:=hm.put fI hg5)
         go_roundw
         case rel=>exact⟨e,ss++[(s.extract (i-1) s.size)],rfl,Eh.out,by have:=GY.out;rw[aj,bV];omega,hm,aH (by
          have z:(ss++[(s.extract (i-1) s.size)]).map bH=ss.map bH++[piece (bH s) i e]:=(by rw[aU];exact congrArg (λz=>ss.map bH++[z]) Ai.out);rw[z,fK.out,HRR.out.1,HRR.out.2.1,bY];rfl),aH λk=>absurd k HX.out⟩
         case measure=>have:=GY.out;have:=Eh.out;simp[intOf];omega
       .have q1':¬(0:Int)<((i:Nat):Int)-1:=by omega
        have mx1 : max (0 : Int) (((i : Nat) : Int) - 1) = 0 := (by omega)
        have PE:Hid (i-1=0):=aH (by omega);by_cases q2:e+1<s.size
        .have q2':((e:Nat):Int)+1<((s.size:Nat):Int):=by omega
         have mn1 : min ((s.size : Nat) : Int) (((e : Nat) : Int) + 1) = ((e : Nat) : Int) + 1 := (by omega)
         have r3:(((e:Nat):Int)+1).toNat=e+1:=(by omega);have r5:((e:Nat):Int)+1<=((s.size:Nat):Int):=(by omega);have r6:(0:Int)<=((e:Nat):Int)+1:=(by omega);have QE:Hid (min (e+1) s.size=e+1):=aH (by omega);clear hrr hlp oF q1 q2;have hpc:bH (s.extract 0 (e+1))=piece (bH s) i e:=by
          have h:bH (s.extract 0 (e+1))=piece (bH s) i e:=(by rw[lh,piece,bN,QE.out];(try rw[PE.out]));(exact h)
         have Ai:=aH hpc;clear hpc;go_wp2_with (at_builtin;refine bQ rfl (.tmp 30) (.tmp 41) 22 rfl w.heap.size 9 i0 (.string ⟨#[]⟩) 1 16 underlying22 hi0 hz0 hz1 hz2 rfl (by decide) (.slice ao ss.length co) ss.length (ss.map Value.string) rfl (hm.own.alloc _) _ 1 _ [.string (s.extract 0 (e+1))] rfl rfl (.inr ⟨_,rfl,cK (bP _ _ _)⟩) dH (by unfold maxLen;omega) (by omega) (by have:=hm.ext.size;rw[fw];omega) ?_;intro v5 w5 fI hg5 hl5;have hm:=hm.put fI hg5)
         go_roundw
         case rel=>exact⟨e,ss++[(s.extract 0 (e+1))],rfl,Eh.out,by have:=GY.out;rw[aj,bV];omega,hm,aH (by
          have z:(ss++[(s.extract 0 (e+1))]).map bH=ss.map bH++[piece (bH s) i e]:=(by rw[aU];exact congrArg (λz=>ss.map bH++[z]) Ai.out);rw[z,fK.out,HRR.out.1,HRR.out.2.1,bY];rfl),aH λk=>absurd k HX.out⟩
         case measure=>have:=GY.out;have:=Eh.out;simp[intOf];omega
        .have q2':¬((e:Nat):Int)+1<((s.size:Nat):Int):=by omega
         have mn1 : min ((s.size : Nat) : Int) (((e : Nat) : Int) + 1) = ((s.size : Nat) : Int) := (by omega)
         have QE:Hid (min (e+1) s.size=s.size):=aH (by omega);clear hrr hlp oF q1 q2;have hpc:bH s=piece (bH s) i e:=by
          have h:bH (s.extract 0 s.size)=piece (bH s) i e:=(by rw[lh,piece,bN,QE.out];(try rw[PE.out]));(rw[NS]at h;exact h)
         have Ai:=aH hpc;clear hpc;go_wp2_with (at_builtin;refine bQ rfl (.tmp 30) (.tmp 41) 22 rfl w.heap.size 9 i0 (.string ⟨#[]⟩) 1 16 underlying22 hi0 hz0 hz1 hz2 rfl (by decide) (.slice ao ss.length co) ss.length (ss.map Value.string) rfl (hm.own.alloc _) _ 1 _ [.string s] rfl rfl (.inr ⟨_,rfl,cK (bP _ _ _)⟩) dH (by unfold maxLen;omega) (by omega) (by have:=hm.ext.size;rw[fw];omega) ?_;intro v5 w5 fI hg5 hl5;have hm:=hm.put fI hg5)
         go_roundw
         case rel=>exact⟨e,ss++[s],rfl,Eh.out,by have:=GY.out;rw[aj,bV];omega,hm,aH (by
          have z:(ss++[s]).map bH=ss.map bH++[piece (bH s) i e]:=(by rw[aU];exact congrArg (λz=>ss.map bH++[z]) Ai.out);rw[z,fK.out,HRR.out.1,HRR.out.2.1,bY];rfl),aH λk=>absurd k HX.out⟩
         case measure=>have:=GY.out;have:=Eh.out;simp[intOf];omega
     .have h3:¬((e:Nat):Int)<((s.size:Nat):Int):=by omega
      have HX:Hid ((bH s)[e]?≠some 46):=aH λk=>hel (by have:=bz.fU k;rw[bN]at this;exact this)
      clear hel;go_upto_region 9 with fail
      have oF:i<e:=by
       rcases dX i e with q|q
       .exact q
       .have q2:e=i:=by omega
        subst q2;exact absurd HC.out HX.out
      have hrr:=bz.oI oF HE.out HX.out (H0.out HC.out);have HRR:=aH hrr;have hlp:=hrr.2.2;rw[bN]at hlp;have Sl:wrap64 (((i:Nat):Int)-1)=((i:Nat):Int)-1:=dS (by omega);have Eh:=aH hlp;have GY:=aH oF;by_cases q1:1<i
      .have q1':(0:Int)<((i:Nat):Int)-1:=by omega
       have mx1 : max (0 : Int) (((i : Nat) : Int) - 1) = ((i : Nat) : Int) - 1 := (by omega)
       have mn1 : min ((s.size : Nat) : Int) (((e : Nat) : Int) + 1) = ((s.size : Nat) : Int) := (by omega)
       have r1:(0:Int)<=((i:Nat):Int)-1:=(by omega);have r2:(((i:Nat):Int)-1).toNat=i-1:=(by omega);have q2':¬((e:Nat):Int)+1<((s.size:Nat):Int):=(by omega);have r4:((i:Nat):Int)-1<=((s.size:Nat):Int):=(by omega);have rsl:∀w,(Instr.slice 9 (.string s) (some (.int .i64 (((i:Nat):Int)-1))) (some (.int .i64 ((s.size:Nat):Int))) none).run prog w=.ok (.string (s.extract (i-1) s.size)) w:=λw=>zC w (by omega) (by omega) (by omega) (by omega) (by omega)
       have QE:Hid (min (e+1) s.size=s.size):=aH (by omega);clear hrr hlp oF q1;have hpc:bH (s.extract (i-1) s.size)=piece (bH s) i e:=by
        have h:bH (s.extract (i-1) s.size)=piece (bH s) i e:=(by rw[lh,piece,bN,QE.out];(try rw[bN]));(exact h)
       have Ai:=aH hpc;clear hpc;go_wp2_with (at_builtin;refine bQ rfl (.tmp 30) (.tmp 41) 22 rfl w.heap.size 9 i0 (.string ⟨#[]⟩) 1 16 underlying22 hi0 hz0 hz1 hz2 rfl (by decide) (.slice ao ss.length co) ss.length (ss.map Value.string) rfl (hm.own.alloc _) _ 1 _ [.string (s.extract (i-1) s.size)] rfl rfl (.inr ⟨_,rfl,cK (bP _ _ _)⟩) dH (by unfold maxLen;omega) (by omega) (by have:=hm.ext.size;rw[fw];omega) ?_;intro v5 w5 fI hg5 hl5;have hm:=hm.put fI hg5)
       go_roundw
       case rel=>exact⟨e,ss++[(s.extract (i-1) s.size)],rfl,Eh.out,by have:=GY.out;rw[aj,bV];omega,hm,aH (by
        have z:(ss++[(s.extract (i-1) s.size)]).map bH=ss.map bH++[piece (bH s) i e]:=(by rw[aU];exact congrArg (λz=>ss.map bH++[z]) Ai.out);rw[z,fK.out,HRR.out.1,HRR.out.2.1,bY];rfl),aH λk=>absurd k HX.out⟩
       case measure=>have:=GY.out;have:=Eh.out;simp[intOf];omega
      .have q1':¬(0:Int)<((i:Nat):Int)-1:=by omega
       have mx1 : max (0 : Int) (((i : Nat) : Int) - 1) = 0 := (by omega)
       have mn1 : min ((s.size : Nat) : Int) (((e : Nat) : Int) + 1) = ((s.size : Nat) : Int) := (by omega)
       have PE:Hid (i-1=0):=aH (by omega);have q2':¬((e:Nat):Int)+1<((s.size:Nat):Int):=(by omega);have QE:Hid (min (e+1) s.size=s.size):=aH (by omega);clear hrr hlp oF q1;have hpc:bH s=piece (bH s) i e:=by
        have h:bH (s.extract 0 s.size)=piece (bH s) i e:=(by rw[lh,piece,bN,QE.out];(try rw[PE.out]));(rw[NS]at h;exact h)
       have Ai:=aH hpc;clear hpc;go_wp2_with (at_builtin;refine bQ rfl (.tmp 30) (.tmp 41) 22 rfl w.heap.size 9 i0 (.string ⟨#[]⟩) 1 16 underlying22 hi0 hz0 hz1 hz2 rfl (by decide) (.slice ao ss.length co) ss.length (ss.map Value.string) rfl (hm.own.alloc _) _ 1 _ [.string s] rfl rfl (.inr ⟨_,rfl,cK (bP _ _ _)⟩) dH (by unfold maxLen;omega) (by omega) (by have:=hm.ext.size;rw[fw];omega) ?_;intro v5 w5 fI hg5 hl5;have hm:=hm.put fI hg5)
       go_roundw
       case rel=>exact⟨e,ss++[s],rfl,Eh.out,by have:=GY.out;rw[aj,bV];omega,hm,aH (by
        have z:(ss++[s]).map bH=ss.map bH++[piece (bH s) i e]:=(by rw[aU];exact congrArg (λz=>ss.map bH++[z]) Ai.out);rw[z,fK.out,HRR.out.1,HRR.out.2.1,bY];rfl),aH λk=>absurd k HX.out⟩
       case measure=>have:=GY.out;have:=Eh.out;simp[intOf];omega
   .rw[decide_eq_false hc]at hb
    have Xk:=aH (bz.Ci (jT hlt) (λk=>hc (by rw[jT hlt,k]))).symm;have Qs:=aH hc;clear hc hlt;go_wp2
    go_roundw
    case rel=>exact⟨i+1,ss,by go_num,dK.out,by omega,hm,aH (by rw[fK.out,Xk.out]),aH λ_=>.inr Qs.out⟩
    case measure=>have:=dK.out;simp[intOf];omega
  .have hie:i=s.size:=by omega
   subst hie;go_wp2
   go_ret
   exact⟨_,ss,rfl,hm,by rw[fK.out,bz.FP (by rw[bN];exact ai _),bq]⟩
end
end Go.Proofs.YteknjeohbcgpdaaGreatDoor