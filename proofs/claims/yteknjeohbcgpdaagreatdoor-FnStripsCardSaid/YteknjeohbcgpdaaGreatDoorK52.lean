/-
  Contract of the program's StripValue. (3 texts.)
-/
import Derived.Test.YteknjeohbcgpdaaGreatDoorK50
import Derived.Test.YteknjeohbcgpdaaGreatDoorK51
import Derived.Laws.EntriesVeiled
set_option maxRecDepth 100000
namespace Go.Proofs.YteknjeohbcgpdaaGreatDoor
open Tryz
section
open Go.RowKit
open bz (Stp dots runs jW kC eQ)
theorem z8:∀{l:Stp},(46:UInt8) ∉ l->dots l=[l]
 |[],_=>rfl
 |c :: l,h=>by
  have hc:c≠46:=λe=>h (by simp[e])
  rw[dots,if_neg hc,z8 (λe=>h (by simp[e]))]
theorem JI:∀{a:Stp} (r:Stp),(46:UInt8) ∉ a->dots (a++46 :: r)=a :: dots r
 |[],r,_=>by simp[dots]
 |c :: a,r,h=>by
  have hc:c≠46:=λe=>h (by simp[e])
  rw[List.cons_append,dots,if_neg hc,JI r (λe=>h (by simp[e]))]
theorem Im:∀(n:Nat) (l:Stp),l.length<=n->Lib.splitK [46] 0 (Lib.count l [46]) l=dots l/\Lib.count l [46]+1=(dots l).length:=by
 intro n
 induction n with
 |zero=>
  intro l h;obtain rfl:l=[]:=fE (by omega);have hn:(46:UInt8) ∉ ([]:Stp):=by simp
  rw[Az hn,z8 hn,Lib.count_one,List.count_eq_zero.2 hn];exact⟨rfl,rfl⟩
 |succ n ih=>
  intro l h;by_cases hm:(46:UInt8)∈l
  .obtain⟨a,r,rfl,hna⟩:=List.eq_append_cons_of_mem hm
   have hr:r.length<=n:=(by simp at h;omega);obtain⟨i1,i2⟩:=ih r hr;rw[Io hna,JI r hna,i1];refine⟨rfl,?_⟩;rw[dO,<-i2,Lib.count_one,Lib.count_one,List.count_append,List.count_eq_zero.2 hna,List.count_cons_self];omega
  .rw[Az hm,z8 hm,Lib.count_one,List.count_eq_zero.2 hm]
   exact⟨rfl,rfl⟩
theorem Il(s:ByteArray):Lib.countB s ⟨#[46]⟩+1=(dots (bH s)).length/\(Lib.splitB ⟨#[46]⟩ 0 (Lib.countB s ⟨#[46]⟩) s).map bH=dots (bH s):=by
 obtain⟨h1,h2⟩:=Im _ (bH s) (ai _);have hc:Lib.countB s ⟨#[46]⟩=Lib.count (bH s) [46]:=rfl;refine⟨by rw[hc];exact h2,?_⟩;have:=Lib.splitB_data ⟨#[46]⟩ 0 (Lib.countB s ⟨#[46]⟩) s;have e:(Lib.splitB ⟨#[46]⟩ 0 (Lib.countB s ⟨#[46]⟩) s).map bH=(Lib.splitB ⟨#[46]⟩ 0 (Lib.countB s ⟨#[46]⟩) s).map (·.data.toList):=rfl;rw[e,this,hc];exact h1
set_option maxHeartbeats 1000000 in
theorem stripParts_0(s:ByteArray)(hs:s.size<=12)(w:World):Calls prog 57 #[.int .i64 0,.string s] w (jJ w (eQ 0 (bH s))):=by
 obtain⟨i0,hi0,hz0,hz1,hz2⟩:=info_parts fO;have hr:=Rs.one w s;go_enter Tryz.func57,Tryz.ntmps57
 go_upto_region 8 with fail
 generalize w.alloc (.cells #[.string s] 9)=w1 at *;have Oc:Hid (∀b,(Value.slice (some ⟨w.heap.size,0,none⟩) 1 1).ownBlock=some b->b≠w1.heap.size):=aH λb hb=>by have:=(hr.own.lt b hb).2;omega
 obtain⟨raw,hraw⟩:∃raw,raw=[s]:=⟨_,rfl⟩;have hn:1=raw.length:=by rw[hraw];rfl
 have hst:Strs w1 (.slice (some ⟨w.heap.size,0,none⟩) 1 1) raw:=by rw[hraw];exact Strs.eO hr.own (by simp)
 have HL:Hid (raw.map bH=jW 0 (bH s)):=aH (by rw[hraw];rfl);have Kq:=aH hr.ext;have e1:Value.slice (some ⟨w.heap.size,0,none⟩) 1 1=.slice (some ⟨w.heap.size,0,none⟩) raw.length 1:=by rw[hraw];rfl
 rw[e1]at hst Oc ⊢;have GU:=aH hst;clear hr hraw hn hst e1;generalize (some (⟨w.heap.size,0,none⟩:Addr))=ar at *;have hrl:raw.length<=13:=by have a:=(mH (k:=0) (bH s)).1;have b:=congrArg List.length HL.out;rw[aJ]at b;rw[bN]at a;omega
 have Vl:=aH (mH (k:=0) (bH s));have hm:=Ro.new (w:=w1) (Below.refl _ (w1.alloc (.cells #[] 9)));go_wp2
 go_loopw [6,8,24] (λov _ ii wr=>∃(i:Nat) (ss:List ByteArray),ii=.int .i64 ((i:Nat):Int)/\i<=raw.length/\ss.length<=i/\Ro w1 (w1.alloc (.cells #[] 9)) wr ov ss/\Hid (ss.map bH=zJ 0 (jW 0 (bH s)) i)) (λ_ _ ii _=>raw.length-(intOf ii).toNat)
 case atStart=>exact⟨0,[],rfl,az _,az _,hm,aH rfl⟩
 case round=>
  clear hm;obtain⟨i,ss,rfl,hi,hsl,hm,fK⟩:=hrel;obtain⟨ao,co,rfl,-,-⟩:=bD hm.own;by_cases hlt:i<raw.length
  .have h1:((i:Nat):Int)<((raw.length:Nat):Int):=by omega
   have dK:=aH hlt;obtain⟨b,off,rfl,hc⟩:=(hm.strs (GU.out.ext (bK (Below.refl _ _) _)) Oc.out).at hlt;have hce:=hc i hlt;have uf:i<(jW 0 (bH s)).length:=(by rw[<-HL.out,aJ];exact hlt);have hel:(jW 0 (bH s))[i]'uf=bH (raw[i]'hlt):=by
    have e:(raw.map bH)[i]?=(jW 0 (bH s))[i]?:=(by rw[HL.out]);rw[dB,aa hlt,aa uf]at e;simp only[iG,bJ]at e;exact e.symm
   have hps:=ry (k:=0) uf;rw[hel]at hps;have hrz:(raw[i]'hlt).size<=12:=by
    have:=Vl.out.2 _ (ah uf);rw[hel,bN,bN]at this;omega
   obtain⟨r,her⟩:∃r,r=raw[i]'hlt:=⟨_,rfl⟩;rw[<-her]at hce hps hrz;have hO:=sZ (k:=0) (by decide) r hrz;cases hv:kC 0 (bH r)with
   |true=>
    rw[hv]at hps hO;rw[if_pos rfl,bq]at hps;have Eg:=aH hps;have HO:=aH hO;clear hps hO hv her hrz hel uf hlt hc;go_wp2_with (go_at_call 101;refine(HO.out _).mono ?_;rintro e w2 ⟨rfl,hx⟩;have hm:=hm.to hx)
    go_roundw
    case rel=>exact⟨i+1,ss,by go_num,dK.out,by omega,hm,aH (by rw[fK.out,Eg.out])⟩
    case measure=>have:=dK.out;simp[intOf];omega
   |false=>
    rw[hv]at hps hO;rw[if_neg (by simp)]at hps;have Eg:=aH hps;have HO:=aH hO;clear hps hO hv her hrz hel uf hlt hc
    go_wp2_with (first
     |(go_at_call 101;refine(HO.out _).mono ?_;rintro e w2 ⟨rfl,hx⟩;have hm:=hm.to hx)
     |(at_builtin;refine bQ rfl (.tmp 32) (.tmp 34) 22 rfl w1.heap.size 9 i0 (.string ⟨#[]⟩) 1 16 underlying22 hi0 hz0 hz1 hz2 rfl (by decide) (.slice ao ss.length co) ss.length (ss.map Value.string) rfl (hm.own.alloc _) _ 1 _ [.string r] rfl rfl (.inr ⟨_,rfl,cK (bP _ _ _)⟩) dH (by unfold maxLen;omega) (by omega) (by have:=(hm.ext (bK (Below.refl _ _) _)).size;rw[fw];omega) ?_;intro v5 w5 fI hg5 hl5;have hm:=hm.put fI hg5 hl5))
    go_roundw
    case rel=>exact⟨i+1,ss++[r],by go_num,dK.out,by rw[aj,bV];omega,hm,aH (by rw[aU,fK.out,Eg.out];rfl)⟩
    case measure=>have:=dK.out;simp[intOf];omega
  .have hie:i=raw.length:=by omega
   subst hie;go_wp2
   go_ret
   exact⟨_,ss,rfl,⟨qd hm.own Kq.out.size,ay Kq.out (hm.ext (bK (Below.refl _ _) _))⟩,by rw[fK.out,zJ,cO (by rw[<-HL.out,aJ];exact ai _)];rfl⟩
set_option maxHeartbeats 1000000 in
theorem stripParts_1(s:ByteArray)(hs:s.size<=12)(m:Int)(w:World)(hc0:w.cell? ⟨0,0,none⟩=some (.int .i64 m)):Calls prog 57 #[.int .i64 1,.string s] w (jJ w (eQ 1 (bH s))):=by
 obtain⟨i0,hi0,hz0,hz1,hz2⟩:=info_parts fO;have hr:=Rs.one w s;obtain⟨hpl,Sw⟩:=Il s;obtain⟨parts,hparts⟩:∃parts,parts=Lib.splitB ⟨#[46]⟩ 0 (Lib.countB s ⟨#[46]⟩) s:=⟨_,rfl⟩;rw[<-hparts]at Sw;have hnc:Lib.countB s ⟨#[46]⟩+1=parts.length:=by rw[hpl,<-Sw,aJ]
 have hm1:=(hr.ext.cell (lt_of_cell hc0)).trans hc0;have hsplit:=Tryz.strings_Split s ⟨#[46]⟩ m (w.alloc (.cells #[.string s] 9)) (by omega) hm1 (by decide);rw[<-hparts]at hsplit;have HS:=aH hsplit;have HX0:=aH hr.ext;have Qs:=aH hnc;have HPD:=aH Sw;clear hsplit hpl hnc Sw hparts hr hm1 hc0;go_enter Tryz.func57,Tryz.ntmps57
 go_upto_region 8 with(go_at_call 72;refine HS.out.mono ?_;rintro e w2 ⟨rfl,rfl⟩)
 obtain⟨raw,hraw⟩:∃raw,raw=parts:=⟨_,rfl⟩;have hrb:raw.length<=13:=by
  have a:=(mH (k:=1) (bH s)).1;have b:=congrArg List.length HPD.out;have c:jW 1 (bH s)=dots (bH s):=rfl;rw[aJ]at b;rw[bN,c]at a;rw[hraw];omega
 have hst:=QV (w.alloc (.cells #[.string s] 9)) parts (by rw[<-hraw];omega) Qs.out;rw[Qs.out,<-hraw]at hst ⊢;have hx2:Ext (w.alloc (.cells #[.string s] 9)) ((w.alloc (.cells #[.string s] 9)).alloc (.cells (raw.map Value.string).toArray 9)):=by go_grown
 have hz2':((w.alloc (.cells #[.string s] 9)).alloc (.cells (raw.map Value.string).toArray 9)).heap.size=(w.alloc (.cells #[.string s] 9)).heap.size+1:=fw _ _;have Oc:Hid (∀b,(Value.slice (some ⟨(w.alloc (.cells #[.string s] 9)).heap.size,0,none⟩) raw.length raw.length).ownBlock=some b->b≠((w.alloc (.cells #[.string s] 9)).alloc (.cells (raw.map Value.string).toArray 9)).heap.size):=aH λb hb=>by
  simp only[Value.ownBlock,bJ]at hb;rw[hz2'];omega
 have HL:Hid (raw.map bH=jW 1 (bH s)):=aH (by rw[hraw];exact HPD.out);rw[show(w.alloc (.cells #[.string s] 9)).heap.size=w.heap.size+1 from fw _ _]at hst Oc;have Kq:=aH (ay HX0.out hx2);have GU:=aH hst;clear hst hx2 hz2' hraw hrb HS Qs HPD HX0;generalize (some (⟨w.heap.size+1,0,none⟩:Addr))=ar at *;generalize (w.alloc (.cells #[.string s] 9)).alloc (.cells (raw.map Value.string).toArray 9)=w1 at *;have hrl:raw.length<=13:=by have a:=(mH (k:=1) (bH s)).1;have b:=congrArg List.length HL.out;rw[aJ]at b;rw[bN]at a;omega
 have Vl:=aH (mH (k:=1) (bH s));have hm:=Ro.new (w:=w1) (Below.refl _ (w1.alloc (.cells #[] 9)));go_wp2
 go_loopw [6,8,24] (λov _ ii wr=>∃(i:Nat) (ss:List ByteArray),ii=.int .i64 ((i:Nat):Int)/\i<=raw.length/\ss.length<=i/\Ro w1 (w1.alloc (.cells #[] 9)) wr ov ss/\Hid (ss.map bH=zJ 1 (jW 1 (bH s)) i)) (λ_ _ ii _=>raw.length-(intOf ii).toNat)
 case atStart=>exact⟨0,[],rfl,az _,az _,hm,aH rfl⟩
 case round=>
  clear hm;obtain⟨i,ss,rfl,hi,hsl,hm,fK⟩:=hrel;obtain⟨ao,co,rfl,-,-⟩:=bD hm.own;by_cases hlt:i<raw.length
  .have h1:((i:Nat):Int)<((raw.length:Nat):Int):=by omega
   have dK:=aH hlt;obtain⟨b,off,rfl,hc⟩:=(hm.strs (GU.out.ext (bK (Below.refl _ _) _)) Oc.out).at hlt;have hce:=hc i hlt;have uf:i<(jW 1 (bH s)).length:=(by rw[<-HL.out,aJ];exact hlt);have hel:(jW 1 (bH s))[i]'uf=bH (raw[i]'hlt):=by
    have e:(raw.map bH)[i]?=(jW 1 (bH s))[i]?:=(by rw[HL.out]);rw[dB,aa hlt,aa uf]at e;simp only[iG,bJ]at e;exact e.symm
   have hps:=ry (k:=1) uf;rw[hel]at hps;have hrz:(raw[i]'hlt).size<=12:=by
    have:=Vl.out.2 _ (ah uf);rw[hel,bN,bN]at this;omega
   obtain⟨r,her⟩:∃r,r=raw[i]'hlt:=⟨_,rfl⟩;rw[<-her]at hce hps hrz;have hO:=sZ (k:=1) (by decide) r hrz;cases hv:kC 1 (bH r)with
   |true=>
    rw[hv]at hps hO;rw[if_pos rfl,bq]at hps;have Eg:=aH hps;have HO:=aH hO;clear hps hO hv her hrz hel uf hlt hc;go_wp2_with (go_at_call 101;refine(HO.out _).mono ?_;rintro e w2 ⟨rfl,hx⟩;have hm:=hm.to hx)
    go_roundw
    case rel=>exact⟨i+1,ss,by go_num,dK.out,by omega,hm,aH (by rw[fK.out,Eg.out])⟩
    case measure=>have:=dK.out;simp[intOf];omega
   |false=>
    rw[hv]at hps hO;rw[if_neg (by simp)]at hps;have Eg:=aH hps;have HO:=aH hO;clear hps hO hv her hrz hel uf hlt hc
    go_wp2_with (first
     |(go_at_call 101;refine(HO.out _).mono ?_;rintro e w2 ⟨rfl,hx⟩;have hm:=hm.to hx)
     |(at_builtin;refine bQ rfl (.tmp 32) (.tmp 34) 22 rfl w1.heap.size 9 i0 (.string ⟨#[]⟩) 1 16 underlying22 hi0 hz0 hz1 hz2 rfl (by decide) (.slice ao ss.length co) ss.length (ss.map Value.string) rfl (hm.own.alloc _) _ 1 _ [.string r] rfl rfl (.inr ⟨_,rfl,cK (bP _ _ _)⟩) dH (by unfold maxLen;omega) (by omega) (by have:=(hm.ext (bK (Below.refl _ _) _)).size;rw[fw];omega) ?_;intro v5 w5 fI hg5 hl5;have hm:=hm.put fI hg5 hl5))
    go_roundw
    case rel=>exact⟨i+1,ss++[r],by go_num,dK.out,by rw[aj,bV];omega,hm,aH (by rw[aU,fK.out,Eg.out];rfl)⟩
    case measure=>have:=dK.out;simp[intOf];omega
  .have hie:i=raw.length:=by omega
   subst hie;go_wp2
   go_ret
   exact⟨_,ss,rfl,⟨qd hm.own Kq.out.size,ay Kq.out (hm.ext (bK (Below.refl _ _) _))⟩,by rw[fK.out,zJ,cO (by rw[<-HL.out,aJ];exact ai _)];rfl⟩
set_option maxHeartbeats 1000000 in
theorem stripParts_2(s:ByteArray)(hs:s.size<=12)(w:World):Calls prog 57 #[.int .i64 2,.string s] w (jJ w (eQ 2 (bH s))):=by
 obtain⟨i0,hi0,hz0,hz1,hz2⟩:=info_parts fO;have HX0:=aH (Rs.one w s).ext;go_enter Tryz.func57,Tryz.ntmps57
 go_upto_region 8 with(go_at_call 100;refine(xz s hs _).mono ?_;rintro e w1 hr;obtain⟨ar,raw,cr,rfl,hmr,hl,hn⟩:=hr.open;have HL:=aH hl;have HN:=aH hn;clear hn hl hr)
 replace HL:Hid (raw.map bH=jW 2 (bH s)):=HL;have Kq:=aH (ay HX0.out hmr.ext);have Oc:Hid (∀b,(Value.slice ar raw.length cr).ownBlock=some b->b≠w1.heap.size):=aH λb hb=>by have:=(hmr.own.lt b hb).2;omega
 have GU:=aH (Strs.eO hmr.own (by have:=(mH (k:=2) (bH s)).1;have h:=congrArg List.length HL.out;rw[aJ]at h;rw[bN]at this;omega));clear hmr;have hrl:raw.length<=13:=by have a:=(mH (k:=2) (bH s)).1;have b:=congrArg List.length HL.out;rw[aJ]at b;rw[bN]at a;omega
 have Vl:=aH (mH (k:=2) (bH s));have hm:=Ro.new (w:=w1) (Below.refl _ (w1.alloc (.cells #[] 9)));go_wp2
 go_loopw [6,8,24] (λov _ ii wr=>∃(i:Nat) (ss:List ByteArray),ii=.int .i64 ((i:Nat):Int)/\i<=raw.length/\ss.length<=i/\Ro w1 (w1.alloc (.cells #[] 9)) wr ov ss/\Hid (ss.map bH=zJ 2 (jW 2 (bH s)) i)) (λ_ _ ii _=>raw.length-(intOf ii).toNat)
 case atStart=>exact⟨0,[],rfl,az _,az _,hm,aH rfl⟩
 case round=>
  clear hm;obtain⟨i,ss,rfl,hi,hsl,hm,fK⟩:=hrel;obtain⟨ao,co,rfl,-,-⟩:=bD hm.own;by_cases hlt:i<raw.length
  .have h1:((i:Nat):Int)<((raw.length:Nat):Int):=by omega
   have dK:=aH hlt;obtain⟨b,off,rfl,hc⟩:=(hm.strs (GU.out.ext (bK (Below.refl _ _) _)) Oc.out).at hlt;have hce:=hc i hlt;have uf:i<(jW 2 (bH s)).length:=(by rw[<-HL.out,aJ];exact hlt);have hel:(jW 2 (bH s))[i]'uf=bH (raw[i]'hlt):=by
    have e:(raw.map bH)[i]?=(jW 2 (bH s))[i]?:=(by rw[HL.out]);rw[dB,aa hlt,aa uf]at e;simp only[iG,bJ]at e;exact e.symm
   have hps:=ry (k:=2) uf;rw[hel]at hps;have hrz:(raw[i]'hlt).size<=12:=by
    have:=Vl.out.2 _ (ah uf);rw[hel,bN,bN]at this;omega
   obtain⟨r,her⟩:∃r,r=raw[i]'hlt:=⟨_,rfl⟩;rw[<-her]at hce hps hrz;have hO:=sZ (k:=2) (by decide) r hrz;cases hv:kC 2 (bH r)with
   |true=>
    rw[hv]at hps hO;rw[if_pos rfl,bq]at hps;have Eg:=aH hps;have HO:=aH hO;clear hps hO hv her hrz hel uf hlt hc;go_wp2_with (go_at_call 101;refine(HO.out _).mono ?_;rintro e w2 ⟨rfl,hx⟩;have hm:=hm.to hx)
    go_roundw
    case rel=>exact⟨i+1,ss,by go_num,dK.out,by omega,hm,aH (by rw[fK.out,Eg.out])⟩
    case measure=>have:=dK.out;simp[intOf];omega
   |false=>
    rw[hv]at hps hO;rw[if_neg (by simp)]at hps;have Eg:=aH hps;have HO:=aH hO;clear hps hO hv her hrz hel uf hlt hc
    go_wp2_with (first
     |(go_at_call 101;refine(HO.out _).mono ?_;rintro e w2 ⟨rfl,hx⟩;have hm:=hm.to hx)
     |(at_builtin;refine bQ rfl (.tmp 32) (.tmp 34) 22 rfl w1.heap.size 9 i0 (.string ⟨#[]⟩) 1 16 underlying22 hi0 hz0 hz1 hz2 rfl (by decide) (.slice ao ss.length co) ss.length (ss.map Value.string) rfl (hm.own.alloc _) _ 1 _ [.string r] rfl rfl (.inr ⟨_,rfl,cK (bP _ _ _)⟩) dH (by unfold maxLen;omega) (by omega) (by have:=(hm.ext (bK (Below.refl _ _) _)).size;rw[fw];omega) ?_;intro v5 w5 fI hg5 hl5;have hm:=hm.put fI hg5 hl5))
    go_roundw
    case rel=>exact⟨i+1,ss++[r],by go_num,dK.out,by rw[aj,bV];omega,hm,aH (by rw[aU,fK.out,Eg.out];rfl)⟩
    case measure=>have:=dK.out;simp[intOf];omega
  .have hie:i=raw.length:=by omega
   subst hie;go_wp2
   go_ret
   exact⟨_,ss,rfl,⟨qd hm.own Kq.out.size,ay Kq.out (hm.ext (bK (Below.refl _ _) _))⟩,by rw[fK.out,zJ,cO (by rw[<-HL.out,aJ];exact ai _)];rfl⟩
set_option maxHeartbeats 1000000 in
theorem stripParts_3(s:ByteArray)(hs:s.size<=12)(w:World):Calls prog 57 #[.int .i64 3,.string s] w (jJ w (eQ 3 (bH s))):=by
 obtain⟨i0,hi0,hz0,hz1,hz2⟩:=info_parts fO;have HX0:=aH (Rs.one w s).ext;go_enter Tryz.func57,Tryz.ntmps57
 go_upto_region 8 with(go_at_call 100;refine(xz s hs _).mono ?_;rintro e w1 hr;obtain⟨ar,raw,cr,rfl,hmr,hl,hn⟩:=hr.open;have HL:=aH hl;have HN:=aH hn;clear hn hl hr)
 replace HL:Hid (raw.map bH=jW 3 (bH s)):=HL;have Kq:=aH (ay HX0.out hmr.ext);have Oc:Hid (∀b,(Value.slice ar raw.length cr).ownBlock=some b->b≠w1.heap.size):=aH λb hb=>by have:=(hmr.own.lt b hb).2;omega
 have GU:=aH (Strs.eO hmr.own (by have:=(mH (k:=3) (bH s)).1;have h:=congrArg List.length HL.out;rw[aJ]at h;rw[bN]at this;omega));clear hmr;have hrl:raw.length<=13:=by have a:=(mH (k:=3) (bH s)).1;have b:=congrArg List.length HL.out;rw[aJ]at b;rw[bN]at a;omega
 have Vl:=aH (mH (k:=3) (bH s));have hm:=Ro.new (w:=w1) (Below.refl _ (w1.alloc (.cells #[] 9)));go_wp2
 go_loopw [6,8,24] (λov _ ii wr=>∃(i:Nat) (ss:List ByteArray),ii=.int .i64 ((i:Nat):Int)/\i<=raw.length/\ss.length<=i/\Ro w1 (w1.alloc (.cells #[] 9)) wr ov ss/\Hid (ss.map bH=zJ 3 (jW 3 (bH s)) i)) (λ_ _ ii _=>raw.length-(intOf ii).toNat)
 case atStart=>exact⟨0,[],rfl,az _,az _,hm,aH rfl⟩
 case round=>
  clear hm;obtain⟨i,ss,rfl,hi,hsl,hm,fK⟩:=hrel;obtain⟨ao,co,rfl,-,-⟩:=bD hm.own;by_cases hlt:i<raw.length
  .have h1:((i:Nat):Int)<((raw.length:Nat):Int):=by omega
   have dK:=aH hlt;obtain⟨b,off,rfl,hc⟩:=(hm.strs (GU.out.ext (bK (Below.refl _ _) _)) Oc.out).at hlt;have hce:=hc i hlt;have uf:i<(jW 3 (bH s)).length:=(by rw[<-HL.out,aJ];exact hlt);have hel:(jW 3 (bH s))[i]'uf=bH (raw[i]'hlt):=by
    have e:(raw.map bH)[i]?=(jW 3 (bH s))[i]?:=(by rw[HL.out]);rw[dB,aa hlt,aa uf]at e;simp only[iG,bJ]at e;exact e.symm
   have hps:=ry (k:=3) uf;rw[hel]at hps;have hrz:(raw[i]'hlt).size<=12:=by
    have:=Vl.out.2 _ (ah uf);rw[hel,bN,bN]at this;omega
   obtain⟨r,her⟩:∃r,r=raw[i]'hlt:=⟨_,rfl⟩;rw[<-her]at hce hps hrz;have hO:=sZ (k:=3) (by decide) r hrz;cases hv:kC 3 (bH r)with
   |true=>
    rw[hv]at hps hO;rw[if_pos rfl,bq]at hps;have Eg:=aH hps;have HO:=aH hO;clear hps hO hv her hrz hel uf hlt hc;go_wp2_with (go_at_call 101;refine(HO.out _).mono ?_;rintro e w2 ⟨rfl,hx⟩;have hm:=hm.to hx)
    go_roundw
    case rel=>exact⟨i+1,ss,by go_num,dK.out,by omega,hm,aH (by rw[fK.out,Eg.out])⟩
    case measure=>have:=dK.out;simp[intOf];omega
   |false=>
    rw[hv]at hps hO;rw[if_neg (by simp)]at hps;have Eg:=aH hps;have HO:=aH hO;clear hps hO hv her hrz hel uf hlt hc
    go_wp2_with (first
     |(go_at_call 101;refine(HO.out _).mono ?_;rintro e w2 ⟨rfl,hx⟩;have hm:=hm.to hx)
     |(at_builtin;refine bQ rfl (.tmp 32) (.tmp 34) 22 rfl w1.heap.size 9 i0 (.string ⟨#[]⟩) 1 16 underlying22 hi0 hz0 hz1 hz2 rfl (by decide) (.slice ao ss.length co) ss.length (ss.map Value.string) rfl (hm.own.alloc _) _ 1 _ [.string r] rfl rfl (.inr ⟨_,rfl,cK (bP _ _ _)⟩) dH (by unfold maxLen;omega) (by omega) (by have:=(hm.ext (bK (Below.refl _ _) _)).size;rw[fw];omega) ?_;intro v5 w5 fI hg5 hl5;have hm:=hm.put fI hg5 hl5))
    go_roundw
    case rel=>exact⟨i+1,ss++[r],by go_num,dK.out,by rw[aj,bV];omega,hm,aH (by rw[aU,fK.out,Eg.out];rfl)⟩
    case measure=>have:=dK.out;simp[intOf];omega
  .have hie:i=raw.length:=by omega
   subst hie;go_wp2
   go_ret
   exact⟨_,ss,rfl,⟨qd hm.own Kq.out.size,ay Kq.out (hm.ext (bK (Below.refl _ _) _))⟩,by rw[fK.out,zJ,cO (by rw[<-HL.out,aJ];exact ai _)];rfl⟩
theorem Ca{k:Nat}(hk:k<=3)(s:ByteArray)(hs:s.size<=12)(m:Int)(w:World)(hc0:w.cell? ⟨0,0,none⟩=some (.int .i64 m)):Calls prog 57 #[.int .i64 ((k:Nat):Int),.string s] w (jJ w (eQ k (bH s))):=by
 match k,hk with
 | 0,_=>exact stripParts_0 s hs w
 | 1,_=>exact stripParts_1 s hs m w hc0
 | 2,_=>exact stripParts_2 s hs w
 | 3,_=>exact stripParts_3 s hs w
set_option maxHeartbeats 1000000 in
theorem Bl(kind:Int)(s:ByteArray)(m:Int)(w:World)(hc0:w.cell? ⟨0,0,none⟩=some (.int .i64 m)):Calls prog 20 #[.int .i64 kind,.string s] w (Dw kind s w):=by
 cases hg:iP kind (bH s)with
 |false=>
  have HM:Hid (∀w',Ext w w'->Rs w w' (.slice none 0 0) []):=aH λw' hx=>⟨⟨rfl,.inl ⟨rfl,rfl⟩⟩,hx⟩
  go_enter Tryz.func20,Tryz.ntmps20
  go_wp2_with (go_at_call 53;refine(mo _ _ _).mono ?_;rintro e w2 ⟨he,hx⟩;rw[hg]at he;subst he)
  go_ret2
  exact⟨_,[],by rw[hg];rfl,HM.out _ hx,by rw[hg];rfl⟩
 |true=>
  obtain⟨k,rfl,hk,hs,hL⟩:=ic.1 hg;rw[bN]at hs;have HK:=aH hk;have HC:=aH hc0;clear hL hc0;go_enter Tryz.func20,Tryz.ntmps20
  go_wp2_with (first
   |(go_at_call 53;refine(mo _ _ _).mono ?_;rintro e w2 ⟨he,hx⟩;rw[hg]at he;subst he)
   |(go_at_call 57;refine(Ca HK.out s hs m _ ((hx.cell (lt_of_cell HC.out)).trans HC.out)).mono ?_;rintro e w3 hr;obtain⟨a,ss,cap,rfl,hm,hl,hn⟩:=hr.open;have HL:=aH hl;clear hr hl hn))
  go_ret2
  exact⟨_,ss,by rw[hg];rfl,⟨qd hm.own hx.size,ay hx hm.ext⟩,by rw[HL.out,hg];simp⟩
end
section
open Go.RowKit
open bz (dC Nd vl Gm Canon iK fq eu Same)
variable {V:Sv}
theorem ZN(hV:V.Ok):∀n,MO V n:=by
 intro n
 induction n with
 |zero=>intro w0 pp h kb s fk n g sb w hn;omega
 |succ n ih=>exact PG hV ih
theorem TQ(hV:V.Ok)(w0:World)(pp h kb:Nat)(s:iQ)(fk:Value->Option Value)(n:Nat)(g:Gm)(sb:ByteArray)(w:World)(hT:V.T n g sb)(K:DD V 0 w0 w pp h kb s fk)(hG:V.G w0):
 Calls prog 86 #[.agg #[.pointer (some ⟨pp,0,none⟩),.map (some kb),.func (.func V.fn) #[] V.env],.string sb] w (vv V w0 pp h kb s fk n g w):=
 ZN hV (n+1) w0 pp h kb s fk n g sb w (by omega) hT K hG
def MH(g:Gm)(w:World)(e:Ending)(w':World):Prop:=
 ∃F vN Fr ok sl,e=.returned (.tuple #[.agg #[vN],.bool ok])/\fu F g/\ok=gQ F/\Fr=(if ok then F else [])/\FO w' w.heap.size vN Fr.length sl (o9 Fr)/\Ext w w'
def KE:List Row:=[⟨0,[],12,[6]⟩,⟨1,[0],13,[11]⟩,⟨2,[],14,[6]⟩,⟨3,[],15,[0]⟩,⟨4,[2,3],16,[13,14]⟩,⟨5,[1,4,4],17,[12,15]⟩,⟨6,[5],18,[16]⟩,⟨7,[5],19,[16]⟩,⟨8,[6,5,0,1,2,3,4,5,6,7],0,[4,17]⟩,⟨9,[7,8,0,1,2,3,4,5,6,7,8],6,[18]⟩]
def IU:iQ:=⟨.slice none 0 0,.slice none 0 0,.slice none 0 0,[],λ_=>False,λ_=>none⟩
set_option maxHeartbeats 4000000 in
theorem KD(hV:V.Ok)(n:Nat)(g:Gm)(sb:ByteArray)(w:World)(hT:V.T n g sb)(hG:V.G w):
 Calls prog 44 #[.string sb,.func (.func V.fn) #[] V.env] w (MH g w):=by
 have hb1:(w.alloc (.cells #[.slice none 0 0] 28)).heap[w.heap.size]?=some (.cells #[.slice none 0 0] 28 (0,0)):=heap_alloc_new _ _;have hx1:Ext w (w.alloc (.cells #[.slice none 0 0] 28)):=by go_grown
 have hmm:=λw:World=>run_makeMap_plain (P:=prog) (w:=w) 113
 go_enter Tryz.func44,Tryz.ntmps44
 go_upto_region 1 with fail
 generalize w.alloc (.cells #[.slice none 0 0] 28)=W1 at *;generalize hf1:w.heap.size=f1 at *;have Pq:f1<W1.heap.size:=bG hb1;go_upto_region 2 with(go_at_call 68;refine(uD W1).mono ?_;rintro e w2 ⟨h,hh,rfl,hp2,yQ,hz2,hx2⟩)
 subst hh;have hx3:Ext w2 (w2.alloc (.map #[] 0)):=bK (Below.refl _ _) _;have ab5:(w2.alloc (.map #[] 0)).heap[W1.heap.size+6]?=some (.map #[] 0):=by rw[<-hz2];exact heap_alloc_new _ _
 have hz3:(w2.alloc (.map #[] 0)).heap.size=W1.heap.size+6+1:=by rw[fw,hz2]
 have XM:=(dm.empty hp2 yQ).ext hx3;have xx:=ay hx2 hx3;generalize w2.alloc (.map #[] 0)=W3 at *;have K3:DD V 0 W1 W3 (W1.heap.size+1+1+1+1+1) W1.heap.size (W1.heap.size+6) IU (λ_=>none):=by
  have hp:∀b,jP (W1.heap.size+1+1+1+1+1) W1.heap.size IU b->W1.heap.size<=b/\b<=W1.heap.size+5:=by
   intro b hb;rcases hb with h|h|h|h|h
   .omega
   .omega
   .simp[IU,Value.ownBlock]at h
   .simp[IU,Value.ownBlock]at h
   .simp[IU,Value.ownBlock]at h
  exact⟨XM,λx hx=>absurd hx (by simp[IU]),(gu.made _ _ ab5).mono (az _),λ_ _ h=>(by cases h),az _,λh=>by have:=(hp _ h).2;omega,λh=>h.elim,by omega,λb hb=>(hp b hb).1,xx⟩
 have hx4:Ext W3 (W3.alloc (.cells #[.pointer (some ⟨W1.heap.size+1+1+1+1+1,0,none⟩),.map (some (W1.heap.size+6)),.func (.func V.fn) #[] V.env] 115)):=bK (Below.refl _ _) _;have hb4:(W3.alloc (.cells #[.pointer (some ⟨W1.heap.size+1+1+1+1+1,0,none⟩),.map (some (W1.heap.size+6)),.func (.func V.fn) #[] V.env] 115)).heap[W1.heap.size+6+1]?=some (.cells #[.pointer (some ⟨W1.heap.size+1+1+1+1+1,0,none⟩),.map (some (W1.heap.size+6)),.func (.func V.fn) #[] V.env] 115 (0,0)):=by rw[<-hz3];exact heap_alloc_new _ _
 have hK4:=K3.ext' hx4;have hax:=K3.aside (b:=W1.heap.size+6+1) (by omega) (bG hb4);have hG1:=hV.ZM hG hx1;generalize W3.alloc (.cells #[.pointer (some ⟨W1.heap.size+1+1+1+1+1,0,none⟩),.map (some (W1.heap.size+6)),.func (.func V.fn) #[] V.env] 115)=W4 at *;generalize W1.heap.size+6+1=px at *;generalize W1.heap.size+6=kb at *;obtain⟨h,hh⟩:∃h,h=W1.heap.size:=⟨_,rfl⟩;rw[<-hh]at hK4 hax hb4 Pq ⊢;generalize h+1+1+1+1+1=pp at *;clear hp2 yQ hz2 hz3 K3 XM ab5 hx3 hx4 xx hx2 hmm;have b0:=cell_of_row W4 px 0 _ _ _ hb4;have b1:=cell_of_row W4 px 1 _ _ _ hb4;have b2:=cell_of_row W4 px 2 _ _ _ hb4;simp only[gM,dJ,dQ]at b0 b1 b2;have hcall:∀W,Ext W4 W->Calls prog 86 #[.agg #[.pointer (some ⟨pp,0,none⟩),.map (some kb),.func (.func V.fn) #[] V.env],.string sb] W (vv V W1 pp h kb IU (λ_=>none) n g W):=λW hW=>TQ hV W1 pp h kb IU (λ_=>none) n g sb W hT (hK4.ext' hW) hG1
 refine bW (λW=>W.cell? ⟨px,0,none⟩=some (.pointer (some ⟨pp,0,none⟩))/\W.cell? ⟨px,1,none⟩=some (.map (some kb))/\W.cell? ⟨px,2,none⟩=some (.func (.func V.fn) #[] V.env)) [8,9] KE (by kernel_rfl) ⟨by kernel_rfl,by kernel_rfl,by kernel_rfl⟩ ⟨b0,b1,b2⟩ (λax ae=>?_);(refine bT 0 ax ae ?_;refine bT 1 ax ae ?_;refine bT 2 ax ae ?_;refine bT 3 ax ae ?_);(refine oZ ax (i:=4) λK hK=>?_;go_simp);refine(hcall _ (bS ⟨1,rfl⟩)).mono ?_;rintro e5 w5 ⟨s5,fk5,i,rfl,K5,G5,-,hi5,Fa,he5⟩;have hxd:Ext W4 (W4.drewN 1):=bS ⟨1,rfl⟩;have hb5:=((((hax.go (rY.ext hxd)).1).go G5).2.trans (hax.go (rY.ext hxd)).2).trans hb4;have d0:=cell_of_row w5 px 0 _ _ _ hb5;have d1:=cell_of_row w5 px 1 _ _ _ hb5;have d2:=cell_of_row w5 px 2 _ _ _ hb5;simp only[gM,dJ,dQ]at d0 d1 d2;(refine hK.out _ _ (λ_=>?_) ?_)
 .exact⟨d0,d1,d2⟩
 clear hK K;(try simp only[nP]);(refine oZ ax (i:=5) λK hK=>?_;go_simp);refine(zI pp h s5 i w5 K5.pool hi5).mono ?_;rintro e6 w6 ⟨F,vN,Fr,ok,sl,rfl,hF1,hF2,hok,JE,Dg,hx6⟩;obtain⟨aN,cN,rfl⟩:=Dg.top;have HOK:=aH (And.intro hok JE);clear hok JE;have Zz:w6.cell? ⟨px,0,none⟩=some (.pointer (some ⟨pp,0,none⟩))/\w6.cell? ⟨px,1,none⟩=some (.map (some kb))/\w6.cell? ⟨px,2,none⟩=some (.func (.func V.fn) #[] V.env):=⟨(hx6.cell (lt_of_cell d0)).trans d0,(hx6.cell (lt_of_cell d1)).trans d1,(hx6.cell (lt_of_cell d2)).trans d2⟩;(refine hK.out _ _ (λ_=>?_) ?_)
 .exact Zz
 clear hK K;(try simp only[nP]);clear ae;have ae:=Zz;(refine bT 6 ax ae ?_;refine bT 7 ax ae ?_);refine ow ax [8,9] [_,_] ?_;have Py:=ay K5.ext hx6;have hbf:=(Py.block f1 (by omega)).trans hb1;have hsz5:=K5.ext.size;have c0:=cell_of_row w6 f1 0 _ _ _ hbf;have q0:=frozen_of_row w6 f1 0 _ _ hbf;have HW:=aH (heap_setCell_same w6 f1 0 _ _ (.slice aN Fr.length cN) hbf);have HEr:=aH ((ay hx1 Py).setCell (p:=⟨f1,0,none⟩) (by show w.heap.size<=f1;omega) (.slice aN Fr.length cN));have HFO:=aH ((Dg.xm (gI (p:=⟨f1,0,none⟩) (v:=.slice aN Fr.length cN)) (λb hb=>by subst hb;omega)).lower (show f1<=w5.heap.size by omega));have HV:=aH (show fu F g from⟨hF1,_,hF2,Fa,he5⟩);clear ax ae d0 d1 d2 b0 b1 b2 Zz Dg hF1 hF2 Fa he5 hcall hb5 hax K5 G5 hK4;go_wp2
 (try simp only[Exit.inBlock,Exit.then]);refine bodyPost_ret (dY rfl _ _ f1 28 #[.slice aN Fr.length cN] (0,0) _ rfl HW.out underlying28 rfl (by kernel_rfl) rfl) rfl ?_;exact⟨F,_,Fr,ok,sl,rfl,HV.out,HOK.out.1,HOK.out.2,by rw[hf1];exact HFO.out,HEr.out⟩
end
section
open Go.RowKit
open bz (dC Nd vl Gm Canon iK fq eu Same Stp gS jN mS mU)
variable {kd:Nat}
theorem TW(args:Array Value)(w:World):(callFunc 54 args).run prog w=.ok (.enter 54 args) w:=by kernel_rfl
def Yu(kd p:Nat):Sv where
 fn:=54
 env:=#[.pointer (some ⟨p,0,none⟩)]
 T:=λn g sb=>mU kd (bH sb)/\sb.size<=7/\n=mS kd (bH sb)/\g=gS kd (bH sb)
 U:=(univ kd).map λl=>⟨l.toArray⟩
 G:=λw=>w.cell? ⟨p,0,none⟩=some (.int .i64 ((kd:Nat):Int))
theorem Vs(hk:kd<=3)(p:Nat)(left:Bool)(sb:ByteArray)(hs:sb.size<=12)(w:World)(hc:w.cell? ⟨p,0,none⟩=some (.int .i64 ((kd:Nat):Int))):Calls prog 54 #[.string sb,.bool left,.pointer (some ⟨p,0,none⟩)] w (jJ w (jN kd left (bH sb))):=by
 go_enter Tryz.func54,Tryz.ntmps54
 go_wp2_with (go_at_call 55;refine(ll hk left sb hs _).mono ?_;rintro e w2 hr;obtain⟨a,ss,cap,rfl,hm,hl,hn⟩:=hr.open;have HL:=aH hl;clear hr hl hn)
 go_ret
 exact⟨_,ss,rfl,hm,HL.out⟩
theorem Ot{p:Nat}(hk:kd<=3):(Yu kd p).Ok where
 room:=by
  show((univ kd).map λl=>(⟨l.toArray⟩:ByteArray)).length<=400000;rw[aJ];exact bU (Ib kd) (by decide)
 mem:=by
  rintro n g sb ⟨h1,h2,_,_⟩;exact aI.2 ⟨bH sb,Ia h1 (by rw[bN];exact h2),Nf sb⟩
 one:=by
  rintro n g sb n' g' ⟨_,_,rfl,rfl⟩ ⟨_,_,rfl,rfl⟩;exact⟨rfl,iK.refl _⟩
 size:=by
  rintro n g sb ⟨_,h,_,_⟩;unfold maxLen;omega
 ZM:=by
  intro w w' h hx;exact(hx.cell (lt_of_cell h)).trans h
 ent:=TW
 moves:=by
  rintro n g sb left w ⟨h1,h2,rfl,rfl⟩ hG;show Calls prog 54 #[.string sb,.bool left,.pointer (some ⟨p,0,none⟩)] w _;refine(Vs hk p left sb (by omega) w hG).mono ?_;rintro e w' ⟨v,ss,rfl,hm,hss⟩;have hlen:ss.length=(jN kd left (bH sb)).length:=by rw[<-hss,aJ]
  have hT:∀j (h:j<ss.length) (h':j<(jN kd left (bH sb)).length),bH (ss[j]'h)=(jN kd left (bH sb))[j]'h':=λj h h'=>by
   have e1:(ss.map bH)[j]?=(jN kd left (bH sb))[j]?:=(by rw[hss]);rw[dB,aa h,aa h']at e1;simp only[iG,bJ]at e1;exact e1
  have hok:∀j (h:j<ss.length),mU kd (bH (ss[j]'h))/\(ss[j]'h).size<=7/\mS kd (bH (ss[j]'h))<mS kd (bH sb)/\gS kd (bH (ss[j]'h))∈side (gS kd (bH sb)) left:=λj h=>by
   have h':j<(jN kd left (bH sb)).length:=(by omega);have hmem:bH (ss[j]'h)∈jN kd left (bH sb):=(by rw[hT j h h'];exact ah h');refine⟨bz.rD h1 hmem,?_,bz.rC hmem,bz.l9.2 ⟨_,hmem,rfl⟩⟩;have:=bz.vS hmem;rw[bN,bN]at this;omega
  refine⟨v,ss,rfl,hm.own,?_,⟨λj h=>?_,λx hx=>?_⟩,hm.ext⟩
  .have:=bz.CF kd left (bH sb)
   rw[bN]at this;omega
  .obtain⟨a,b,c,d⟩:=hok j h
   exact⟨_,_,c,d,a,b,rfl,rfl⟩
  .obtain⟨t,ht,rfl⟩:=bz.l9.1 hx
   obtain⟨j,hj,rfl⟩:=aO.1 ht;have h:j<ss.length:=(by omega);obtain⟨a,b,c,d⟩:=hok j h;exact⟨j,h,_,a,b,rfl,by rw[hT j h hj]⟩
def Qa(kind:Int)(s:ByteArray)(w:World)(e:Ending)(w':World):Prop:=
 ∃vN Fr ok sl,e=.returned (.tuple #[.agg #[vN],.bool ok])/\Ef kind s Fr ok/\FO w' w.heap.size vN Fr.length sl (o9 Fr)/\Ext w w'
set_option maxHeartbeats 2000000 in
theorem xq(kind:Int)(s:ByteArray)(w:World):Calls prog 18 #[.int .i64 kind,.string s] w (Qa kind s w):=by
 have hb1:((w.alloc (.cells #[.int .i64 kind] 3)).alloc (.cells #[.slice none 0 0] 28)).heap[w.heap.size]?=some (.cells #[.int .i64 kind] 3 (0,0)):=by
  rw[Below.heap_alloc _ _ _ (by simp)];exact heap_alloc_new _ _
 have hb2:((w.alloc (.cells #[.int .i64 kind] 3)).alloc (.cells #[.slice none 0 0] 28)).heap[w.heap.size+1]?=some (.cells #[.slice none 0 0] 28 (0,0)):=by
  have h:=heap_alloc_new (w.alloc (.cells #[.int .i64 kind] 3)) (.cells #[.slice none 0 0] 28);rw[fw]at h;exact h
 have hx2:Ext w ((w.alloc (.cells #[.int .i64 kind] 3)).alloc (.cells #[.slice none 0 0] 28)):=by go_grown
 cases hg:iP kind (bH s)with
 |false=>
  have ML:Hid (iP kind (bH s)=false\/¬s.size<=7):=aH (.inl hg);go_enter Tryz.func18,Tryz.ntmps18
  go_upto_region 1 with fail
  generalize (w.alloc (.cells #[.int .i64 kind] 3)).alloc (.cells #[.slice none 0 0] 28)=W at *;have c0:=cell_of_row W w.heap.size 0 _ _ _ hb1;go_upto_region 2 with(go_at_call 53;refine(mo _ _ _).mono ?_;rintro e w1 ⟨he,hx1⟩;rw[hg]at he;subst he)
  have hr1:w1.heap[w.heap.size+1]?=some (.cells #[.slice none 0 0] 28 (0,0)):=(hx1.block _ (bG hb2)).trans hb2;have d0:=cell_of_row w1 (w.heap.size+1) 0 _ _ _ hr1;have f0:=frozen_of_row w1 (w.heap.size+1) 0 _ _ hr1;have HE:=aH (ay hx2 hx1);clear c0;go_wp2
  have HH:=aH (heap_setCell_same w1 (w.heap.size+1) 0 _ _ (.slice none 0 0) hr1);(try simp only[Exit.inBlock,Exit.then]);refine bodyPost_ret (dY rfl _ _ (w.heap.size+1) 28 #[.slice none 0 0] (0,0) _ rfl HH.out underlying28 rfl (by kernel_rfl) rfl) rfl ?_;exact⟨_,[],false,λ_=>undef,rfl,.inr ⟨ML.out,rfl,rfl⟩,FO.none _ _ _ _,HE.out.setCell (p:=⟨w.heap.size+1,0,none⟩) (by show w.heap.size<=w.heap.size+1;omega) _⟩
 |true=>
  by_cases h7:s.size<=7
  .have hq7:¬((7:Int)<((s.size:Nat):Int)):=by omega
   obtain⟨kd,rfl,hkd,-,Df⟩:=ic.1 hg;have H7:=aH h7;have GX:=aH Df;have HKD:=aH hkd;have HG:=aH hg;clear Df h7;go_enter Tryz.func18,Tryz.ntmps18
   go_upto_region 1 with fail
   generalize (w.alloc (.cells #[.int .i64 ((kd:Nat):Int)] 3)).alloc (.cells #[.slice none 0 0] 28)=W at *;have c0:=cell_of_row W w.heap.size 0 _ _ _ hb1;go_upto_region 3 with(go_at_call 53;refine(mo _ _ _).mono ?_;rintro e w1 ⟨he,hx1⟩;rw[hg]at he;subst he)
   have hr1:w1.heap[w.heap.size+1]?=some (.cells #[.slice none 0 0] 28 (0,0)):=(hx1.block _ (bG hb2)).trans hb2;have hE1:=ay hx2 hx1;have hc1:=(hx1.cell (lt_of_cell c0)).trans c0;have Sb:=bG hr1;clear hq7 hx1 hb1 hb2 hx2 c0;have hsv:=KD (Ot (p:=w.heap.size) HKD.out) (mS kd (bH s)) (gS kd (bH s)) s w1 ⟨GX.out,H7.out,rfl,rfl⟩ hc1;have HSV:=aH hsv;clear hsv hc1 hg;go_wp2_with (go_at_call 44;refine HSV.out.mono ?_;rintro e w5 ⟨F,vN,Fr,ok,sl,rfl,DK,hok,JE,Dg,hx5⟩;obtain⟨aN,cN,rfl⟩:=Dg.top;have HVV:=aH (And.intro DK (And.intro hok JE));have Jt:w5.heap[w.heap.size+1]?=some (.cells #[.slice none 0 0] 28 (0,0)):=(hx5.block _ Sb).trans hr1;have q0:=cell_of_row w5 (w.heap.size+1) 0 _ _ _ Jt;have q1:=frozen_of_row w5 (w.heap.size+1) 0 _ _ Jt;have HFO:=aH Dg;clear DK hok JE Dg)
   have HW:=aH (heap_setCell_same w5 (w.heap.size+1) 0 _ _ (.slice aN Fr.length cN) Jt);(try simp only[Exit.inBlock,Exit.then]);refine bodyPost_ret (dY rfl _ _ (w.heap.size+1) 28 #[.slice aN Fr.length cN] (0,0) _ rfl HW.out underlying28 rfl (by kernel_rfl) rfl) rfl ?_;exact⟨_,Fr,ok,sl,rfl,.inl ⟨HG.out,H7.out,F,HVV.out⟩,(HFO.out.xm (gI (p:=⟨w.heap.size+1,0,none⟩)) (λb hb=>by subst hb;exact Sb)).lower (show w.heap.size<=w1.heap.size by omega),(ay hE1 hx5).setCell (p:=⟨w.heap.size+1,0,none⟩) (by show w.heap.size<=w.heap.size+1;omega) _⟩
  .have ML:Hid (iP kind (bH s)=false\/¬s.size<=7):=aH (.inr h7)
   have hq7:((7:Int)<((s.size:Nat):Int)):=(by omega);clear h7;go_enter Tryz.func18,Tryz.ntmps18
   go_upto_region 1 with fail
   generalize (w.alloc (.cells #[.int .i64 kind] 3)).alloc (.cells #[.slice none 0 0] 28)=W at *;have c0:=cell_of_row W w.heap.size 0 _ _ _ hb1;go_upto_region 2 with(go_at_call 53;refine(mo _ _ _).mono ?_;rintro e w1 ⟨he,hx1⟩;rw[hg]at he;subst he)
   have hr1:w1.heap[w.heap.size+1]?=some (.cells #[.slice none 0 0] 28 (0,0)):=(hx1.block _ (bG hb2)).trans hb2;have d0:=cell_of_row w1 (w.heap.size+1) 0 _ _ _ hr1;have f0:=frozen_of_row w1 (w.heap.size+1) 0 _ _ hr1;have HE:=aH (ay hx2 hx1);clear c0;go_wp2
   have HH:=aH (heap_setCell_same w1 (w.heap.size+1) 0 _ _ (.slice none 0 0) hr1);(try simp only[Exit.inBlock,Exit.then]);refine bodyPost_ret (dY rfl _ _ (w.heap.size+1) 28 #[.slice none 0 0] (0,0) _ rfl HH.out underlying28 rfl (by kernel_rfl) rfl) rfl ?_;exact⟨_,[],false,λ_=>undef,rfl,.inr ⟨ML.out,rfl,rfl⟩,FO.none _ _ _ _,HE.out.setCell (p:=⟨w.heap.size+1,0,none⟩) (by show w.heap.size<=w.heap.size+1;omega) _⟩
end
end Go.Proofs.YteknjeohbcgpdaaGreatDoor