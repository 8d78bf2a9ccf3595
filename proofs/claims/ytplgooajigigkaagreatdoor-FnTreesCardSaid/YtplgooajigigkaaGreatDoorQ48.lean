/- 48 -/
import Derived.Test.YtplgooajigigkaaGreatDoorQ46
set_option maxRecDepth 100000
set_option maxHeartbeats 4000000
namespace Go.Proofs.YtplgooajigigkaaGreatDoor
open Tryz
section
open Go.RowKit
open aZ (bG bT jK mY)
variable {k:Nat}
theorem De(s:ByteArray)(w:World)(hs:s.size<=8)(hm:nV s=true):Calls prog 62 #[.string s] w λe w'=>e=.returned (.bool true)/\Ext w w':=by
 have h1:((s.size:Nat):Int)<=16:=by omega
 have HM:=aI (λV=>oW s V (by omega));rw[hm]at HM;clear hs hm;go_enter Tryz.func62,Tryz.ntmps62
 go_wp2_with (go_at_call 59;refine(HM.out _).mono ?_;rintro e w1 ⟨rfl,hx1⟩)
 go_ret
 exact⟨rfl,hx1⟩
def Lb(s:ByteArray):List Bool:=s.data.toList.map (· == 76)
theorem UR(s:ByteArray):(Lb s).length=s.size:=by unfold Lb;rw[bH,ib];rfl
theorem NN(s:ByteArray)(h:k<s.size):(Lb s).drop k=(s[k].toNat == 76):: (Lb s).drop (k+1):=by
 rw[fQ (by rw[UR];exact h)];congr 1;unfold Lb;rw[fT];show(s[k] == 76)=_;rw[fV,beq_iff_eq,beq_iff_eq,<-UInt8.toNat_inj];rfl
theorem Ig{s:ByteArray}(hm:nV s=true)(h:k<s.size):s[k].toNat=76\/s[k].toNat=82:=by
 have:=(xG _).1 (of_decide_eq_true hm k h);rcases this with e|e <;> rw[e] <;> simp
def qV:List Row:=[⟨0,[],18,[6]⟩,⟨1,[0],19,[17]⟩,⟨2,[1],20,[0,18]⟩,⟨3,[1],21,[7,18]⟩,⟨4,[2,3,1],22,[19,20,18]⟩,⟨5,[1],23,[0,18]⟩,⟨6,[5,1],24,[22,18]⟩,⟨7,[4,6,1],25,[21,23,18]⟩,⟨8,[1,7],26,[18,24]⟩,⟨9,[8,1,0,1,2,3,4,5,6,7,8],7,[25]⟩]
theorem pR(s:ByteArray)(w:World)(hs:s.size<=8)(hm:nV s=true):Calls prog 25 #[.string s] w λe w'=>e=.returned (lZ (bG 16 (jK (Lb s))) (bT 16 (jK (Lb s))))/\Ext w w':=by
 have hx:Ext w (w.alloc (.cells #[.int .i64 0,.int .i64 0] 34)):=by go_grown
 have hb:=dV w (.cells #[.int .i64 0,.int .i64 0] 34);have HGS:=aI (λV=>De s V hs hm);have HM:=aI hm;clear hm;go_enter Tryz.func25,Tryz.ntmps25
 go_upto_region 1 with fail
 generalize w.alloc (.cells #[.int .i64 0,.int .i64 0] 34)=W at *;have HB:=jW hx hb;clear hx hb;go_upto_region 3 with(go_at_call 62;refine(HGS.out _).mono ?_;rintro e w1 ⟨rfl,hx1⟩)
 have Dj:=aI hx1;have HZ:Hid (s.size=0\/∃h:0<s.size,(Lb s).headD true=(s[0].toNat == 76)):=aI (by
  by_cases h0:0<s.size
  .exact .inr ⟨h0,by have:=NN s h0;rw[List.drop_zero]at this;rw[this];rfl⟩
  .exact .inl (by omega))
 clear hx1;go_wp2
 go_loopw [4,5,6,14] (λxv dv fv kv wr=>∃(k:Nat) (x d:Int) (f:Bool),xv=.int .i64 x/\dv=.int .i64 d/\fv=.bool f/\kv=.int .i64 ((k:Nat):Int)/\k<=s.size/\0<=d/\d<=65536/\-((k:Int)*65536)<=x/\x<=(k:Int)*65536/\Ext w1 wr/\Hid (mY ((Lb s).headD true) ((Lb s).drop k) x d f=jK (Lb s))) (λ_ _ _ kv _=>s.size-(intOf kv).toNat)
 case atStart=>exact⟨0,0,65536,true,rfl,rfl,rfl,rfl,az _,by omega,by omega,by omega,by omega,fJ _ _,aI rfl⟩
 case round=>
  obtain⟨k,x,d,f,rfl,rfl,rfl,rfl,hk,hd0,hd1,hx0,hx1,wY,HS0⟩:=hrel;have HX:=aI wY;clear wY;by_cases hlt:k<s.size
  .have h1:((k:Nat):Int)<((s.size:Nat):Int):=by omega
   have h2:(0:Int)<((s.size:Nat):Int):=(by omega);have hmk:=Ig HM.out hlt;have hm0:=Ig HM.out (show 0<s.size by omega);have hc:=HZ.out.resolve_left (by omega);obtain⟨_,hc⟩:=hc;have hstep:=HS0.out;rw[NN s hlt,mY]at hstep;have hq:d.tdiv 2=d / 2:=Int.tdiv_eq_ediv_of_nonneg hd0;have hwq:wrap64 (d / 2)=d / 2:=(by unfold wrap64;omega);clear HS0;have h0s:0<s.size:=(by omega);have al8:((k:Nat):Int)<=8:=(by omega);cases f with
   |false=>
    go_upto_region 7 with fail
    refine mQ (λ_=>True) [9] qV trivial (λai aa=>?_);(refine bg 0 ai aa ?_;refine bg 1 ai aa ?_);((refine bK ai (i:=2) (oi:=_) (v:=undef) (by simp only[gE];rfl) (by kernel_rfl) (by exact λ_ _ _ h=>h) aa (Or.inr ⟨by rfl,rfl⟩) ?r3);(try simp only[nP]);(refine bK ai (i:=3) (oi:=_) (v:=undef) (by simp only[gE];rfl) (by kernel_rfl) (by exact λ_ _ _ h=>h) aa (Or.inr ⟨by rfl,rfl⟩) ?r4);(try simp only[nP]);(refine bK ai (i:=4) (oi:=_) (v:=undef) (by simp only[gE];rfl) (by kernel_rfl) (by exact λ_ _ _ h=>h) aa (Or.inr ⟨by rfl,rfl⟩) ?r5);(try simp only[nP]);(refine bK ai (i:=5) (oi:=_) (v:=undef) (by simp only[gE];rfl) (by kernel_rfl) (by exact λ_ _ _ h=>h) aa (Or.inr ⟨by rfl,rfl⟩) ?r6);(try simp only[nP]);(refine bK ai (i:=6) (oi:=_) (v:=undef) (by simp only[gE];rfl) (by kernel_rfl) (by exact λ_ _ _ h=>h) aa (Or.inr ⟨by rfl,rfl⟩) ?r7);(try simp only[nP]);(refine bK ai (i:=7) (oi:=_) (v:=undef) (by simp only[gE];rfl) (by kernel_rfl) (by exact λ_ _ _ h=>h) aa (Or.inr ⟨by rfl,rfl⟩) ?r8);(try simp only[nP]));(refine bg 8 ai aa ?_);refine mM ai [9] [_] ?_;clear ai aa;rcases hmk with e|e
    .have e1:((s[k].toNat:Nat):Int)=76:=by omega
     rw[e]at hstep;clear e hm0;have hx2:-(((k:Int)+1)*65536)<=(x+d / 2)/\(x+d / 2)<=((k:Int)+1)*65536/\0<=(d / 2)/\(d / 2)<=65536:=(by omega);have HS:Hid (mY ((Lb s).headD true) ((Lb s).drop (k+1)) ((x+d / 2)) ((d / 2)) false=jK (Lb s)):=aI (by first|exact hstep|(rw[LB];exact hstep));have HB:=aI hx2;clear hstep hx2;go_wp2
     go_roundw
     case rel=>exact⟨k+1,(x+d / 2),(d / 2),false,by go_num,by go_num,rfl,by go_num,by omega,HB.out.2.2.1,HB.out.2.2.2,by have:=HB.out.1;rw[fU];exact this,by have:=HB.out.2.1;rw[fU];exact this,ah HX.out (dz ⟨1,rfl⟩),HS⟩
     case measure=>simp[intOf];omega
    .have e1:((s[k].toNat:Nat):Int)=82:=by omega
     rw[e]at hstep;clear e hm0;have hx2:-(((k:Int)+1)*65536)<=(x-d / 2)/\(x-d / 2)<=((k:Int)+1)*65536/\0<=(d / 2)/\(d / 2)<=65536:=(by omega);have HS:Hid (mY ((Lb s).headD true) ((Lb s).drop (k+1)) ((x-d / 2)) ((d / 2)) false=jK (Lb s)):=aI (by first|exact hstep|(rw[LB];exact hstep));have HB:=aI hx2;clear hstep hx2;go_wp2
     go_roundw
     case rel=>exact⟨k+1,(x-d / 2),(d / 2),false,by go_num,by go_num,rfl,by go_num,by omega,HB.out.2.2.1,HB.out.2.2.2,by have:=HB.out.1;rw[fU];exact this,by have:=HB.out.2.1;rw[fU];exact this,ah HX.out (dz ⟨1,rfl⟩),HS⟩
     case measure=>simp[intOf];omega
   |true=>
    rcases hmk with e|e <;> rcases hm0 with e0|e0
    .have e1:((s[k].toNat:Nat):Int)=76:=by omega
     have e01:((s[0].toNat:Nat):Int)=76:=(by omega);have LB:(Lb s).headD true=true:=(by rw[hc,e0];rfl);rw[e,LB]at hstep;clear e e0 hc;go_upto_region 7 with fail
     refine mQ (λ_=>True) [9] qV trivial (λai aa=>?_);(refine bg 0 ai aa ?_;refine bg 1 ai aa ?_;refine bg 2 ai aa ?_;refine bg 3 ai aa ?_;refine bg 4 ai aa ?_;refine bg 5 ai aa ?_;refine bg 6 ai aa ?_;refine bg 7 ai aa ?_;refine bg 8 ai aa ?_);refine mM ai [9] [_] ?_;clear ai aa;have hx2:-(((k:Int)+1)*65536)<=(x+d)/\(x+d)<=((k:Int)+1)*65536/\0<=d/\d<=65536:=(by omega);have HS:Hid (mY ((Lb s).headD true) ((Lb s).drop (k+1)) ((x+d)) (d) true=jK (Lb s)):=aI (by first|exact hstep|(rw[LB];exact hstep));have HB:=aI hx2;clear hstep hx2;go_wp2
     go_roundw
     case rel=>exact⟨k+1,(x+d),d,true,by go_num,by go_num,rfl,by go_num,by omega,HB.out.2.2.1,HB.out.2.2.2,by have:=HB.out.1;rw[fU];exact this,by have:=HB.out.2.1;rw[fU];exact this,ah HX.out (dz ⟨1,rfl⟩),HS⟩
     case measure=>simp[intOf];omega
    .have e1:((s[k].toNat:Nat):Int)=76:=by omega
     have e01:((s[0].toNat:Nat):Int)=82:=(by omega);have LB:(Lb s).headD true=false:=(by rw[hc,e0];rfl);rw[e,LB]at hstep;clear e e0 hc;go_upto_region 7 with fail
     refine mQ (λ_=>True) [9] qV trivial (λai aa=>?_);(refine bg 0 ai aa ?_;refine bg 1 ai aa ?_;refine bg 2 ai aa ?_;refine bg 3 ai aa ?_;refine bg 4 ai aa ?_;refine bg 5 ai aa ?_;refine bg 6 ai aa ?_;refine bg 7 ai aa ?_;refine bg 8 ai aa ?_);refine mM ai [9] [_] ?_;clear ai aa;have hx2:-(((k:Int)+1)*65536)<=(x+(d / 2))/\(x+(d / 2))<=((k:Int)+1)*65536/\0<=(d / 2)/\(d / 2)<=65536:=(by omega);have HS:Hid (mY ((Lb s).headD true) ((Lb s).drop (k+1)) ((x+(d / 2))) ((d / 2)) false=jK (Lb s)):=aI (by first|exact hstep|(rw[LB];exact hstep));have HB:=aI hx2;clear hstep hx2;go_wp2
     go_roundw
     case rel=>exact⟨k+1,(x+(d / 2)),(d / 2),false,by go_num,by go_num,rfl,by go_num,by omega,HB.out.2.2.1,HB.out.2.2.2,by have:=HB.out.1;rw[fU];exact this,by have:=HB.out.2.1;rw[fU];exact this,ah HX.out (dz ⟨1,rfl⟩),HS⟩
     case measure=>simp[intOf];omega
    .have e1:((s[k].toNat:Nat):Int)=82:=by omega
     have e01:((s[0].toNat:Nat):Int)=76:=(by omega);have LB:(Lb s).headD true=true:=(by rw[hc,e0];rfl);rw[e,LB]at hstep;clear e e0 hc;go_upto_region 7 with fail
     refine mQ (λ_=>True) [9] qV trivial (λai aa=>?_);(refine bg 0 ai aa ?_;refine bg 1 ai aa ?_;refine bg 2 ai aa ?_;refine bg 3 ai aa ?_;refine bg 4 ai aa ?_;refine bg 5 ai aa ?_;refine bg 6 ai aa ?_;refine bg 7 ai aa ?_;refine bg 8 ai aa ?_);refine mM ai [9] [_] ?_;clear ai aa;have hx2:-(((k:Int)+1)*65536)<=(x-(d / 2))/\(x-(d / 2))<=((k:Int)+1)*65536/\0<=(d / 2)/\(d / 2)<=65536:=(by omega);have HS:Hid (mY ((Lb s).headD true) ((Lb s).drop (k+1)) ((x-(d / 2))) ((d / 2)) false=jK (Lb s)):=aI (by first|exact hstep|(rw[LB];exact hstep));have HB:=aI hx2;clear hstep hx2;go_wp2
     go_roundw
     case rel=>exact⟨k+1,(x-(d / 2)),(d / 2),false,by go_num,by go_num,rfl,by go_num,by omega,HB.out.2.2.1,HB.out.2.2.2,by have:=HB.out.1;rw[fU];exact this,by have:=HB.out.2.1;rw[fU];exact this,ah HX.out (dz ⟨1,rfl⟩),HS⟩
     case measure=>simp[intOf];omega
    .have e1:((s[k].toNat:Nat):Int)=82:=by omega
     have e01:((s[0].toNat:Nat):Int)=82:=(by omega);have LB:(Lb s).headD true=false:=(by rw[hc,e0];rfl);rw[e,LB]at hstep;clear e e0 hc;go_upto_region 7 with fail
     refine mQ (λ_=>True) [9] qV trivial (λai aa=>?_);(refine bg 0 ai aa ?_;refine bg 1 ai aa ?_;refine bg 2 ai aa ?_;refine bg 3 ai aa ?_;refine bg 4 ai aa ?_;refine bg 5 ai aa ?_;refine bg 6 ai aa ?_;refine bg 7 ai aa ?_;refine bg 8 ai aa ?_);refine mM ai [9] [_] ?_;clear ai aa;have hx2:-(((k:Int)+1)*65536)<=(x-d)/\(x-d)<=((k:Int)+1)*65536/\0<=d/\d<=65536:=(by omega);have HS:Hid (mY ((Lb s).headD true) ((Lb s).drop (k+1)) ((x-d)) (d) true=jK (Lb s)):=aI (by first|exact hstep|(rw[LB];exact hstep));have HB:=aI hx2;clear hstep hx2;go_wp2
     go_roundw
     case rel=>exact⟨k+1,(x-d),d,true,by go_num,by go_num,rfl,by go_num,by omega,HB.out.2.2.1,HB.out.2.2.2,by have:=HB.out.1;rw[fU];exact this,by have:=HB.out.2.1;rw[fU];exact this,ah HX.out (dz ⟨1,rfl⟩),HS⟩
     case measure=>simp[intOf];omega
  .have h1:¬(((k:Nat):Int)<((s.size:Nat):Int)):=by omega
   obtain rfl:k=s.size:=(by omega);have hfin:x=jK (Lb s):=by
    have:=HS0.out;rw[l6 (by rw[UR];exact ax _)]at this;exact this
   have HL:=aI (λV=>sH x 16 V (by omega) (by omega) (by omega));obtain⟨kt,hkt⟩:=eu ((if eG (bG 16 x) (bT 16 x)then bG 16 x else 0));obtain⟨kp,hkp⟩:=eu ((if eG (bG 16 x) (bT 16 x)then bT 16 x else 0));obtain⟨kb,hkb⟩:=eu (eG (bG 16 x) (bT 16 x));have en:lZ (bG 16 x) (bT 16 x)=.tuple #[.agg #[.int .i64 kt,.int .i64 (kp:Int)],.bool kb]:=(by rw[lZ,hkt,hkp,hkb];rfl);rw[en]at HL;have HEN:=jW hfin en;clear hfin en hkt hkp hkb HS0 hd0 hd1 hx0 hx1 hs hlt
   go_wp2_with (go_at_call 63;refine(HL.out _).mono ?_;rintro e w3 ⟨rfl,hx3⟩
                have hxs:=ah Dj.out (ah HX.out hx3);obtain⟨q0,q1,q2,q3⟩:=dn (kY hxs HB.out.2);have q4:=(q2 (.int .i64 kt)).1;have q5:=(q2 (.int .i64 kt)).2;have HQ:=jW (q3 (.int .i64 kt) (.int .i64 (kp:Int))) (ah HB.out.1 hxs);clear q2 q3 hxs)
   refine tO w.heap.size 34 #[.int .i64 kt,.int .i64 (kp:Int)] HQ.out.1 underlying34 ?_;exact⟨by rw[<-HEN.out.1,HEN.out.2];rfl,(HQ.out.2.setCell (p:=⟨w.heap.size,0,none⟩) (ax _) _).setCell (p:=⟨w.heap.size,1,none⟩) (ax _) _⟩
end
section
open Go.RowKit
theorem TW(a:Option Addr)(n c:Nat)(w:World)(hc:n<=c):Calls prog 60 #[.slice a n c] w λe w'=>e=.returned (.slice a n n)/\Ext w w':=by
 have h1:((n:Nat):Int)<=((c:Nat):Int):=by omega
 go_enter Tryz.func60,Tryz.ntmps60
 go_wp2
 go_ret
 exact⟨rfl,fJ _ _⟩
theorem Kq(k:Nat):jJ (k+1)=jJ k++[(k:Int)-1]:=by simp[jJ,nA]
theorem O6{w:World}{B:Nat}{a:Option Addr}{n c:Nat}{l:List Int}(h:w.ownsRow B 3 1 (.slice a n c) n (l.map (Value.int .i64)))(hl:l.length=n)(hs:l.length<=1152921504606846976):Ints w (.slice a n n) l:=by
 obtain⟨a',c',e,h1,h2,h3⟩:=Ints.dX h hs;simp only[gz]at e;obtain⟨rfl,h4,rfl⟩:=e;exact⟨a,n,by rw[hl],by omega,h2,h3⟩
def JG(s:ByteArray):Bool:=decide (s.size<=8) && nV s
def aa3(s:ByteArray)(w:World)(e:Ending)(w':World):Prop:=
 ∃(a:Option Addr) (n c:Nat) (t:ByteArray),e=.returned (.tuple #[.agg #[.slice a n c,.string t],.bool (JG s)])/\(JG s=true->t=s/\Ints w' (.slice a n c) (jJ s.size))/\Ext w w'
theorem wW(s:ByteArray)(w:World)(hs:s.size<=1000):Calls prog 23 #[.string s] w (aa3 s w):=by
 obtain⟨i0,hi0,hz0,hz1,hz2⟩:=info_parts fB;obtain⟨W,hW,hx,b0,hz⟩:=xq w (.cells #[.slice none 0 0,.string ⟨#[]⟩] 43);obtain⟨q0,q1,q2,q3⟩:=dn b0;have HB:=jW hx b0;have HM:=aI (λV=>oW s V (by omega));by_cases h8:s.size<=8
 .have h1:¬((8:Int)<((s.size:Nat):Int)):=by omega
  cases hm:nV s with
  |false=>
   have hok:JG s=false:=(by unfold JG;rw[hm];simp);have VK:=aI hok;rw[hm]at HM;clear hx b0 hz q2 q3 q0 q1 hm hok;go_enter Tryz.func23,Tryz.ntmps23
   go_upto_region 1 with fail
   rw[<-hW];clear hW;go_upto_region 2 with(go_at_call 59;refine(HM.out _).mono ?_;rintro e w1 ⟨rfl,hx1⟩)
   obtain⟨u0,u1,u2,u3⟩:=dn (kY hx1 HB.out.2);have u4:=(u2 (.slice none 0 0)).1;have u5:=(u2 (.slice none 0 0)).2;have HQ:=jW (u3 (.slice none 0 0) (.string ⟨#[]⟩)) (ah HB.out.1 hx1);clear u2 u3 hx1;go_wp2
   refine tO w.heap.size 43 #[.slice none 0 0,.string ⟨#[]⟩] HQ.out.1 underlying43 ?_;exact⟨none,0,0,⟨#[]⟩,by rw[VK.out];rfl,(λh=>by rw[VK.out]at h;cases h),(HQ.out.2.setCell (p:=⟨w.heap.size,0,none⟩) (ax _) _).setCell (p:=⟨w.heap.size,1,none⟩) (ax _) _⟩
  |true=>
   have hok:JG s=true:=(by unfold JG;rw[hm];simp;omega);have VK:=aI hok;rw[hm]at HM;clear hx b0 hz q2 q3 q0 q1 hm hok;go_enter Tryz.func23,Tryz.ntmps23
   go_upto_region 1 with fail
   rw[<-hW];clear hW;go_upto_region 4 with(go_at_call 59;refine(HM.out _).mono ?_;rintro e w1 ⟨rfl,hx1⟩)
   have hxa:Ext w1 (w1.alloc (.cells #[] 3)):=(by go_grown);have ho0:(w1.alloc (.cells #[] 3)).ownsRow w1.heap.size 3 1 (.slice (some ⟨w1.heap.size,0,none⟩) 0 0) 0 ((jJ 0).map (Value.int .i64)):=World.ownsRow_made w1 (base:=w1.heap.size) (e:=3) (size:=1) #[] 0 (ax _) (by decide) (by simp);generalize w1.alloc (.cells #[] 3)=Wa at *;have Dj:=aI hx1;clear hx1;have HI:=JM hi0 hz0 hz1 hz2;clear hi0 hz0 hz1 hz2;go_wp2
   go_loopw [4,18] (λov kv wr=>∃k:Nat,kv=.int .i64 ((k:Nat):Int)/\k<=s.size/\wr.ownsRow w1.heap.size 3 1 ov k ((jJ k).map (Value.int .i64))/\Ext w1 wr) (λ_ kv _=>s.size-(intOf kv).toNat)
   case atStart=>exact⟨0,rfl,az _,ho0,hxa⟩
   case round=>
    clear ho0 hxa;obtain⟨k,rfl,hk,ho,wY⟩:=hrel;obtain⟨ao,co,rfl,Tc,Xp⟩:=bu ho;by_cases hlt:k<s.size
    .have h2:((k:Nat):Int)<((s.size:Nat):Int):=by omega
     have hk8:((k:Nat):Int)<=8:=(by omega);have hz:=wY.size;go_wp2_with (at_builtin;refine dm rfl (.tmp 21) (.tmp 24) 41 rfl w1.heap.size 3 i0 (.int .i64 0) 1 8 underlying41 HI.out.1 HI.out.2.1 HI.out.2.2.1 HI.out.2.2.2 rfl (by decide) (.slice ao k co) k ((jJ k).map (Value.int .i64)) rfl (ho.alloc _) _ 1 _ [.int .i64 (((k:Nat):Int)-1)] rfl rfl (.inr ⟨_,rfl,dA (bY _ _ _)⟩) one_cell (by unfold maxLen;omega) (by omega) (by rw[eX];omega) ?_;intro v7 w7 zf zS Lj)
     go_roundw
     case rel=>exact⟨k+1,by go_num,hlt,by rw[Kq,bz];exact zf,dw (bJ wY _) zS (λq hq=>(ho.lt q hq).1)⟩
     case measure=>simp[intOf];omega
    .have h2:¬(((k:Nat):Int)<((s.size:Nat):Int)):=by omega
     obtain rfl:k=s.size:=(by omega);have HH:=jW ho wY;have hk8:s.size<=1000:=(by omega);have b1:=kY (ah Dj.out wY) HB.out.2;have HB1:=aI b1;clear ho wY b1
     go_wp2_with (go_at_call 60;refine(TW ao s.size co _ Tc).mono ?_;rintro e w3 ⟨rfl,hx3⟩
                  obtain⟨u0,u1,u2,u3⟩:=dn (kY hx3 HB1.out);have u4:=(u2 (.slice ao s.size s.size)).1;have u5:=(u2 (.slice ao s.size s.size)).2;have HQ:=jW (u3 (.slice ao s.size s.size) (.string s)) hx3;clear u2 u3 hx3)
     refine tO w.heap.size 43 #[.slice ao s.size s.size,.string s] HQ.out.1 underlying43 ?_;have hxe:=ah Dj.out (ah HH.out.2 HQ.out.2);have hIn:=O6 (bW HH.out.1 HQ.out.2) (nT s.size) (by rw[nT];omega);have hks:dW (λb=>b=w.heap.size) w3 ((w3.setCell ⟨w.heap.size,0,none⟩ (.slice ao s.size s.size)).setCell ⟨w.heap.size,1,none⟩ (.string s)):=(dx (p:=⟨w.heap.size,0,none⟩)).trans (dx (p:=⟨w.heap.size,1,none⟩)) λ_ _ h=>h
     have hwl:w.heap.size<w1.heap.size:=(by have:=bq HB.out.2;have:=Dj.out.size;omega);exact⟨ao,s.size,s.size,s,by rw[VK.out];rfl,(λ_=>⟨rfl,hIn.keep λb hl hb=>hks.block b (hIn.blk hl hb) (λe=>by have:=(HH.out.1.lt b (by cases ao with|none=>cases hb|some x=>exact hb)).1;omega)⟩),((ah HB.out.1 hxe).setCell (p:=⟨w.heap.size,0,none⟩) (ax _) _).setCell (p:=⟨w.heap.size,1,none⟩) (ax _) _⟩
 .have h1:(8:Int)<((s.size:Nat):Int):=by omega
  have hok:JG s=false:=by unfold JG;simp[h8]
  have VK:=aI hok;have u4:=(q2 (.slice none 0 0)).1;have u5:=(q2 (.slice none 0 0)).2;have HQ:=jW (q3 (.slice none 0 0) (.string ⟨#[]⟩)) hx;clear hx b0 hz q2 q3 hok HM;go_enter Tryz.func23,Tryz.ntmps23
  go_upto_region 1 with fail
  rw[<-hW];clear hW;go_wp2
  refine tO w.heap.size 43 #[.slice none 0 0,.string ⟨#[]⟩] HQ.out.1 underlying43 ?_;exact⟨none,0,0,⟨#[]⟩,by rw[VK.out];rfl,(λh=>by rw[VK.out]at h;cases h),(HQ.out.2.setCell (p:=⟨w.heap.size,0,none⟩) (ax _) _).setCell (p:=⟨w.heap.size,1,none⟩) (ax _) _⟩
def ah1(w:World)(e:Ending)(w':World):Prop:=e=.returned (.tuple #[.agg #[.slice none 0 0,.string ⟨#[]⟩],.bool false])/\Ext w w'
theorem Oi(s:ByteArray):pU s 8=JG s:=by
 unfold pU JG nV;rw[Bool.and_comm];congr 1;rw[decide_eq_decide];omega
theorem yO(s:ByteArray)(w:World)(hs:s.size<=1000)(hn:JG s=false):Calls prog 24 #[.string s] w (ah1 w):=by
 obtain⟨W,hW,hx,b0,hz⟩:=xq w (.cells #[.slice none 0 0,.string ⟨#[]⟩] 43);have HB:=jW hx b0;have HM:=aI (λV=>sI s 8 V (by omega));rw[Oi,hn]at HM;clear hx b0 hz;go_enter Tryz.func24,Tryz.ntmps24
 go_upto_region 1 with fail
 rw[<-hW];clear hW;go_upto_region 2 with(go_at_call 61;refine(HM.out _).mono ?_;rintro e w1 ⟨rfl,rfl⟩)
 obtain⟨u0,u1,u2,u3⟩:=dn HB.out.2;have u4:=(u2 (.slice none 0 0)).1;have u5:=(u2 (.slice none 0 0)).2;have HQ:=jW (u3 (.slice none 0 0) (.string ⟨#[]⟩)) HB.out.1;clear u2 u3;go_wp2
 refine tO w.heap.size 43 #[.slice none 0 0,.string ⟨#[]⟩] HQ.out.1 underlying43 ?_;exact⟨rfl,(HQ.out.2.setCell (p:=⟨w.heap.size,0,none⟩) (ax _) _).setCell (p:=⟨w.heap.size,1,none⟩) (ax _) _⟩
end
