/-
  Contract of the program's markMoves. (5 texts.)
-/
import Derived.Test.YteknjeohbcgpdaaGreatDoorK17
import Derived.Lib.ConvBytes
set_option maxRecDepth 100000
namespace Go.Proofs.YteknjeohbcgpdaaGreatDoor
open Tryz
section
open Go.RowKit
open bz (Stp pk wJ OT xH gP st2)
variable {w wr w5:World} {ov v5:Value} {ss:List ByteArray} {s:ByteArray} {i:Nat} {c:UInt8}
theorem fO:(prog.info? 9).map (λi=>(i.zero,i.size,i.bytes))=some (some (.string ⟨#[]⟩),1,16):=by kernel_rfl
theorem dS{x:Int}(h:-1000<=x/\x<=1000):wrap64 x=x:=by unfold wrap64;omega
structure Rs(w wr:World)(ov:Value)(ss:List ByteArray):Prop where
 own:wr.ownsRow w.heap.size 9 1 ov ss.length (ss.map Value.string)
 ext:Ext w wr
theorem Rs.new(w:World):Rs w (w.alloc (.cells #[] 9)) (.slice (some ⟨w.heap.size,0,none⟩) 0 0) []:=
 ⟨fC w _ (ai _) _,bK (Below.refl _ _) _⟩
theorem Rs.drewN{w wr:World}{ov:Value}{ss:List ByteArray}(m:Rs w wr ov ss)(n:Nat):Rs w (wr.drewN n) ov ss:=⟨own_drewN m.own n,fZ m.ext n⟩
theorem Rs.to{w2:World}(m:Rs w wr ov ss)(h:Ext wr w2):Rs w w2 ov ss:=⟨dn m.own h,ay m.ext h⟩
theorem Rs.put{X:Obj}(m:Rs w wr ov ss)
 (ho:w5.ownsRow w.heap.size 9 1 v5 (ss.length+1) (ss.map Value.string++[.string s])) (hg:(wr.alloc X).grownBy w5 ov.ownBlock):Rs w w5 v5 (ss++[s]):=
 ⟨by rw[aU,aj];exact ho,zb m.ext m.own hg⟩
theorem Rs.puts{ts:List ByteArray}(m:Rs w wr ov ss)
 (ho:w5.ownsRow w.heap.size 9 1 v5 (ss.length+ts.length) (ss.map Value.string++ts.map Value.string)) (hg:wr.grownBy w5 ov.ownBlock):Rs w w5 v5 (ss++ts):=
 ⟨by rw[aU,aj];exact ho,m.ext.grown hg m.ext.size λk hk=>(m.own.lt k hk).1⟩
theorem QU{a:Option Addr}{n cap:Nat}(h:Strs w (.slice a n cap) ss):n=0\/∃ad,a=some ad/\∀j u,(ss.map Value.string)[j]?=some u->w.cell? (ad.add j)=some u:=by
 rcases kg n with e|e
 .exact .inl e
 .have hn:n=ss.length:=by
   obtain⟨a',cap',e1,_⟩:=h.open;simp only[Value.slice.injEq]at e1;exact e1.2.1
  obtain⟨b,off,rfl,hc⟩:=h.at (i:=0) (by omega);refine .inr ⟨_,rfl,λj u hj=>?_⟩;rw[dB]at hj;have hl:j<ss.length:=by
   rcases dX j ss.length with k|k
   .exact k
   .rw[iC k]at hj;cases hj
  rw[aa hl]at hj;simp only[iG,bJ]at hj;subst hj;have:(⟨b,off,none⟩:Addr).add j=⟨b,off+j,none⟩:=by unfold Addr.add;split <;> simp_all
  rw[this];exact hc j hl
theorem dH:∀u∈([Value.string s]:List Value),u.oneCell'=true:=by
 intro u hu;simp at hu;subst hu;rfl
theorem Dt:∀u∈(ss.map Value.string:List Value),u.oneCell'=true:=by
 intro u hu;obtain⟨s,_,rfl⟩:=aI.1 hu;rfl
def jJ(w:World)(l:List Stp)(e:Ending)(w':World):Prop:=∃v ss,e=.returned v/\Rs w w' v ss/\ss.map bH=l
theorem UA(h:(bH s)[i]?=some c):bH (s.extract i (i+1))=[c]:=by
 have e:bH (s.extract i (i+1))=((bH s).drop i).take 1:=by unfold bH;simp[ByteArray.data_extract]
 have hl:=bz.fU h;rw[aa hl]at h;rw[e,iO hl];simp only[bJ]at h;rw[h];rfl
theorem GD:bH ⟨#[46]⟩=[46]:=by decide
theorem rq{u:ByteArray}(h:bH u=(bH s).set i c):u.size=s.size:=by
 rw[<-bN,h,gH,bN]
set_option maxHeartbeats 1000000 in
theorem AR(s:ByteArray)(hs:s.size<=12)(left:Bool)(i:Nat)(hme:(bH s)[i]?=some (wJ left))(d o:Int)(hd:d=xH left)(ho:o=((OT left).toNat:Int))(w:World):
 Calls prog 193 #[.string s,.int .i64 ((i:Nat):Int),.int .i64 d,.int .u8 o] w (jJ w (gP left (bH s) i)):=by
 obtain⟨i0,hi0,hz0,hz1,hz2⟩:=info_parts fO;have hi:=bz.fU hme;rw[bN]at hi;have hd2:-1<=d/\d<=1:=by rw[hd];cases left <;> simp[xH]
 obtain⟨hw1,hwd,hw2,xu⟩:wrap64 (((i:Nat):Int)+1)=((i:Nat):Int)+1/\wrap64 (((i:Nat):Int)+d)=((i:Nat):Int)+d/\wrap64 (2*d)=2*d/\wrap64 (((i:Nat):Int)+2*d)=((i:Nat):Int)+2*d:=by
  clear hd ho hme;exact⟨dS (by omega),dS (by omega),dS (by omega),dS (by omega)⟩
 have htn:(((i:Nat):Int)+1).toNat=i+1:=by omega
 have hil:((i:Nat):Int)+1<=((s.size:Nat):Int):=by omega
 have TK:(0:Int)<=((i:Nat):Int)+1:=by omega
 have hii:((i:Nat):Int)<=((i:Nat):Int)+1:=by omega
 have hsm:s.size<=maxLen:=by unfold maxLen;omega
 have hMe:=UA hme;have hm:=Rs.new w;have I1:∀w,Calls prog 194 #[.string s,.int .i64 (((i:Nat):Int)+d),.int .u8 46] w λe w'=>e=.returned (.bool (xY s (((i:Nat):Int)+d) 46))/\RD w w':=λw=>(j6 s hsm (((i:Nat):Int)+d) 46 w)
 have I2:=λw=>(j6 s hsm (((i:Nat):Int)+d) (OT left) w)
 have I3:∀w,Calls prog 194 #[.string s,.int .i64 (((i:Nat):Int)+2*d),.int .u8 46] w λe w'=>e=.returned (.bool (xY s (((i:Nat):Int)+2*d) 46))/\RD w w':=λw=>(j6 s hsm (((i:Nat):Int)+2*d) 46 w)
 rw[<-ho]at I2;have hne:OT left≠46:=by cases left <;> decide
 have HME:=aH hMe;have Od:=aH (Eq.refl 0);have M1:=aH (Eq.refl 0);have M2:=aH (Eq.refl 0);have M3:=aH (Eq.refl 0);have hs1:=jy s ⟨#[46]⟩ (by omega) i hi 46 GD;have ou:=aH hs1;clear hs1;cases h1:xY s (((i:Nat):Int)+d) 46 with
 |true=>
  have hp:=of_decide_eq_true h1;have h2:xY s (((i:Nat):Int)+d) (OT left)=false:=decide_eq_false λk=>hne (by rw[hp]at k;injection k with k;exact k.symm)
  obtain⟨j,hj,hj2⟩:=bz.jA.1 hp;have hjl:=bz.fU hj2;rw[bN]at hjl;have hv:gP left (bH s) i=[((bH s).set i 46).set j (wJ left)]:=by
   rw[gP,if_pos hme,<-hd,if_pos hp,st2,hj];simp
  rw[h1]at I1;rw[h2]at I2;replace hwd:=hwd.trans hj;rw[hj]at I1 I2;have IA:=aH I1;have IB:=aH I2;have IC:=aH I2;have HV:=aH hv;clear hp h1 h2 hj hj2 hv hd ho hme hMe I1 I2 I3 hd2 xu hw2;go_enter Tryz.func193,Tryz.ntmps193
  go_wp2_with (first
   |(clear M1;go_at_call 194;refine(IA.out _).mono ?_;rintro e w2 ⟨rfl,hr⟩;have hm:=hm.to (bS hr);clear hr)
   |(clear M2;go_at_call 194;refine(IB.out _).mono ?_;rintro e w2 ⟨rfl,hr⟩;have hm:=hm.to (bS hr);clear hr)
   |(clear M3;go_at_call 194;refine(IC.out _).mono ?_;rintro e w2 ⟨rfl,hr⟩;have hm:=hm.to (bS hr);clear hr)
   |(go_at_call 195;refine(jy u _ (by omega) j (by omega) (wJ left) HME.out _).mono ?_;rintro e w4 ⟨x,rfl,hx,hr⟩;have hm:=hm.to (bS hr);clear hr)
   |(clear Od;go_at_call 195;refine(ou.out _).mono ?_;rintro e w3 ⟨u,rfl,hu,hr⟩;have hm:=hm.to (bS hr);have hz:=rq hu;clear hr)
   |(at_builtin;first
    |(refine bQ rfl (.tmp 22) (.tmp 31) 22 rfl w.heap.size 9 i0 (.string ⟨#[]⟩) 1 16 underlying22 hi0 hz0 hz1 hz2 rfl (by decide) (.slice (some ⟨w.heap.size,0,none⟩) 0 0) 0 [] rfl (hm.own.alloc _) _ 1 _ [.string x] rfl rfl (.inr ⟨_,rfl,cK (bP _ _ _)⟩) dH (by unfold maxLen;omega) (by omega) (by have:=hm.ext.size;rw[fw];omega) ?_;intro v5 w5 fI hg5 hl5;have hm:=hm.put fI hg5)
    |(refine bQ rfl (.tmp 47) (.tmp 57) 22 rfl w.heap.size 9 i0 (.string ⟨#[]⟩) 1 16 underlying22 hi0 hz0 hz1 hz2 rfl (by decide) (.slice (some ⟨w.heap.size,0,none⟩) 0 0) 0 [] rfl (hm.own.alloc _) _ 1 _ [.string x] rfl rfl (.inr ⟨_,rfl,cK (bP _ _ _)⟩) dH (by unfold maxLen;omega) (by omega) (by have:=hm.ext.size;rw[fw];omega) ?_;intro v5 w5 fI hg5 hl5;have hm:=hm.put fI hg5)))
  go_ret
  exact⟨_,_,rfl,hm,by rw[HV.out];simp[hx,hu]⟩
 |false=>
  have hp:=of_decide_eq_false h1;cases h2:xY s (((i:Nat):Int)+d) (OT left)with
  |false=>
   have hp2:=of_decide_eq_false h2;have hv:gP left (bH s) i=[]:=by
    rw[gP,if_pos hme,<-hd,if_neg hp,if_neg (λk=>hp2 k.1)]
   rw[h1]at I1;rw[h2]at I2;have IA:=aH I1;have IB:=aH I2;have IC:=aH I2;have HV:=aH hv;have j:Nat:=0;clear hp hp2 h1 h2 hv hd ho hme hMe I1 I2 I3 hd2;go_enter Tryz.func193,Tryz.ntmps193
   go_wp2_with (first
    |(clear M1;go_at_call 194;refine(IA.out _).mono ?_;rintro e w2 ⟨rfl,hr⟩;have hm:=hm.to (bS hr);clear hr)
    |(clear M2;go_at_call 194;refine(IB.out _).mono ?_;rintro e w2 ⟨rfl,hr⟩;have hm:=hm.to (bS hr);clear hr)
    |(clear M3;go_at_call 194;refine(IC.out _).mono ?_;rintro e w2 ⟨rfl,hr⟩;have hm:=hm.to (bS hr);clear hr)
    |(go_at_call 195;refine(jy u _ (by omega) j (by omega) (wJ left) HME.out _).mono ?_;rintro e w4 ⟨x,rfl,hx,hr⟩;have hm:=hm.to (bS hr);clear hr)
    |(clear Od;go_at_call 195;refine(ou.out _).mono ?_;rintro e w3 ⟨u,rfl,hu,hr⟩;have hm:=hm.to (bS hr);have hz:=rq hu;clear hr)
    |(at_builtin;first
     |(refine bQ rfl (.tmp 22) (.tmp 31) 22 rfl w.heap.size 9 i0 (.string ⟨#[]⟩) 1 16 underlying22 hi0 hz0 hz1 hz2 rfl (by decide) (.slice (some ⟨w.heap.size,0,none⟩) 0 0) 0 [] rfl (hm.own.alloc _) _ 1 _ [.string x] rfl rfl (.inr ⟨_,rfl,cK (bP _ _ _)⟩) dH (by unfold maxLen;omega) (by omega) (by have:=hm.ext.size;rw[fw];omega) ?_;intro v5 w5 fI hg5 hl5;have hm:=hm.put fI hg5)
     |(refine bQ rfl (.tmp 47) (.tmp 57) 22 rfl w.heap.size 9 i0 (.string ⟨#[]⟩) 1 16 underlying22 hi0 hz0 hz1 hz2 rfl (by decide) (.slice (some ⟨w.heap.size,0,none⟩) 0 0) 0 [] rfl (hm.own.alloc _) _ 1 _ [.string x] rfl rfl (.inr ⟨_,rfl,cK (bP _ _ _)⟩) dH (by unfold maxLen;omega) (by omega) (by have:=hm.ext.size;rw[fw];omega) ?_;intro v5 w5 fI hg5 hl5;have hm:=hm.put fI hg5)))
   go_ret
   exact⟨_,_,rfl,hm,by rw[HV.out];rfl⟩
  |true=>
   have hp2:=of_decide_eq_true h2;cases h3:xY s (((i:Nat):Int)+2*d) 46 with
   |false=>
    have hp3:=of_decide_eq_false h3;have hv:gP left (bH s) i=[]:=by
     rw[gP,if_pos hme,<-hd,if_neg hp,if_neg (λk=>hp3 k.2)]
    rw[h1]at I1;rw[h2]at I2;rw[h3]at I3;have IA:=aH I1;have IB:=aH I2;have IC:=aH I3;have HV:=aH hv;have j:Nat:=0;clear hp hp2 hp3 h1 h2 h3 hv hd ho hme hMe I1 I2 I3 hd2;go_enter Tryz.func193,Tryz.ntmps193
    go_wp2_with (first
     |(clear M1;go_at_call 194;refine(IA.out _).mono ?_;rintro e w2 ⟨rfl,hr⟩;have hm:=hm.to (bS hr);clear hr)
     |(clear M2;go_at_call 194;refine(IB.out _).mono ?_;rintro e w2 ⟨rfl,hr⟩;have hm:=hm.to (bS hr);clear hr)
     |(clear M3;go_at_call 194;refine(IC.out _).mono ?_;rintro e w2 ⟨rfl,hr⟩;have hm:=hm.to (bS hr);clear hr)
     |(go_at_call 195;refine(jy u _ (by omega) j (by omega) (wJ left) HME.out _).mono ?_;rintro e w4 ⟨x,rfl,hx,hr⟩;have hm:=hm.to (bS hr);clear hr)
     |(clear Od;go_at_call 195;refine(ou.out _).mono ?_;rintro e w3 ⟨u,rfl,hu,hr⟩;have hm:=hm.to (bS hr);have hz:=rq hu;clear hr)
     |(at_builtin;first
      |(refine bQ rfl (.tmp 22) (.tmp 31) 22 rfl w.heap.size 9 i0 (.string ⟨#[]⟩) 1 16 underlying22 hi0 hz0 hz1 hz2 rfl (by decide) (.slice (some ⟨w.heap.size,0,none⟩) 0 0) 0 [] rfl (hm.own.alloc _) _ 1 _ [.string x] rfl rfl (.inr ⟨_,rfl,cK (bP _ _ _)⟩) dH (by unfold maxLen;omega) (by omega) (by have:=hm.ext.size;rw[fw];omega) ?_;intro v5 w5 fI hg5 hl5;have hm:=hm.put fI hg5)
      |(refine bQ rfl (.tmp 47) (.tmp 57) 22 rfl w.heap.size 9 i0 (.string ⟨#[]⟩) 1 16 underlying22 hi0 hz0 hz1 hz2 rfl (by decide) (.slice (some ⟨w.heap.size,0,none⟩) 0 0) 0 [] rfl (hm.own.alloc _) _ 1 _ [.string x] rfl rfl (.inr ⟨_,rfl,cK (bP _ _ _)⟩) dH (by unfold maxLen;omega) (by omega) (by have:=hm.ext.size;rw[fw];omega) ?_;intro v5 w5 fI hg5 hl5;have hm:=hm.put fI hg5)))
    go_ret
    exact⟨_,_,rfl,hm,by rw[HV.out];rfl⟩
   |true=>
    have hp3:=of_decide_eq_true h3;obtain⟨j,hj,hj2⟩:=bz.jA.1 hp3;have hjl:=bz.fU hj2;rw[bN]at hjl;have hv:gP left (bH s) i=[((bH s).set i 46).set j (wJ left)]:=by
     rw[gP,if_pos hme,<-hd,if_neg hp,if_pos ⟨hp2,hp3⟩,st2,hj];simp
    rw[h1]at I1;rw[h2]at I2;rw[h3]at I3;replace xu:=xu.trans hj;rw[hj]at I3;have IA:=aH I1;have IB:=aH I2;have IC:=aH I3;have HV:=aH hv;clear hp hp2 hp3 h1 h2 h3 hj hj2 hv hd ho hme hMe I1 I2 I3 hd2;go_enter Tryz.func193,Tryz.ntmps193
    go_wp2_with (first
     |(clear M1;go_at_call 194;refine(IA.out _).mono ?_;rintro e w2 ⟨rfl,hr⟩;have hm:=hm.to (bS hr);clear hr)
     |(clear M2;go_at_call 194;refine(IB.out _).mono ?_;rintro e w2 ⟨rfl,hr⟩;have hm:=hm.to (bS hr);clear hr)
     |(clear M3;go_at_call 194;refine(IC.out _).mono ?_;rintro e w2 ⟨rfl,hr⟩;have hm:=hm.to (bS hr);clear hr)
     |(go_at_call 195;refine(jy u _ (by omega) j (by omega) (wJ left) HME.out _).mono ?_;rintro e w4 ⟨x,rfl,hx,hr⟩;have hm:=hm.to (bS hr);clear hr)
     |(clear Od;go_at_call 195;refine(ou.out _).mono ?_;rintro e w3 ⟨u,rfl,hu,hr⟩;have hm:=hm.to (bS hr);have hz:=rq hu;clear hr)
     |(at_builtin;first
      |(refine bQ rfl (.tmp 22) (.tmp 31) 22 rfl w.heap.size 9 i0 (.string ⟨#[]⟩) 1 16 underlying22 hi0 hz0 hz1 hz2 rfl (by decide) (.slice (some ⟨w.heap.size,0,none⟩) 0 0) 0 [] rfl (hm.own.alloc _) _ 1 _ [.string x] rfl rfl (.inr ⟨_,rfl,cK (bP _ _ _)⟩) dH (by unfold maxLen;omega) (by omega) (by have:=hm.ext.size;rw[fw];omega) ?_;intro v5 w5 fI hg5 hl5;have hm:=hm.put fI hg5)
      |(refine bQ rfl (.tmp 47) (.tmp 57) 22 rfl w.heap.size 9 i0 (.string ⟨#[]⟩) 1 16 underlying22 hi0 hz0 hz1 hz2 rfl (by decide) (.slice (some ⟨w.heap.size,0,none⟩) 0 0) 0 [] rfl (hm.own.alloc _) _ 1 _ [.string x] rfl rfl (.inr ⟨_,rfl,cK (bP _ _ _)⟩) dH (by unfold maxLen;omega) (by omega) (by have:=hm.ext.size;rw[fw];omega) ?_;intro v5 w5 fI hg5 hl5;have hm:=hm.put fI hg5)))
    go_ret
    exact⟨_,_,rfl,hm,by rw[HV.out];simp[hx,hu]⟩
end
section
open Go.RowKit
open bz (Stp pk wJ OT o5 J8 xH gP tJ lN fQ jH jN rU st2)
variable {w w':World}
def qf(k:Nat)(left:Bool)(s:Stp)(i:Nat):List Stp:=(List.range i).flatMap (jH k left s)
theorem jZ(k:Nat)(left:Bool)(s:Stp)(i:Nat):qf k left s (i+1)=qf k left s i++jH k left s i:=by
 simp[qf,wV]
theorem lW(k:Nat)(left:Bool)(s:ByteArray):qf k left (bH s) s.size=jN k left (bH s):=by
 unfold qf jN;rw[bN]
theorem Aa(left:Bool)(s:Stp)(i:Nat)(j:Int):(fQ left s i j).length<=1:=by unfold fQ;split <;> simp
theorem zz(left:Bool)(s:Stp)(i:Nat):(gP left s i).length<=1:=by
 unfold gP;split
 .split
  .simp
  .split <;> simp
 .simp
theorem Nb(k:Nat)(left:Bool)(s:Stp)(i:Nat):(jH k left s i).length<=2:=by
 unfold jH;split
 .have:=zz left s i;omega
 .split
  .have:=Aa left s i (i-1);have:=Aa left s i (i+1);unfold tJ;rw[aj];omega
  .unfold lN;split <;> simp
theorem lV(k:Nat)(left:Bool)(s:Stp)(i:Nat):(qf k left s i).length<=2*i:=by
 induction i with
 |zero=>simp[qf]
 |succ i ih=>rw[jZ,aj];have:=Nb k left s i;omega
theorem lg{s:ByteArray}{i:Nat}(h:i<s.size)(n:Nat)(hn:n<256):((((s[i]'h).toNat:Nat):Int)== ((n:Nat):Int))=decide ((bH s)[i]?=some (UInt8.ofNat n)):=by
 rw[Gz _ _ hn,jT h,iW];simp
theorem jJ.open{l:List Stp}{e:Ending}(h:jJ w l e w'):∃a ss cap,e=.returned (.slice a ss.length cap)/\Rs w w' (.slice a ss.length cap) ss/\ss.map bH=l/\ss.length=l.length:=by
 obtain⟨v,ss,rfl,hm,hl⟩:=h;obtain⟨a,cap,rfl,-⟩:=bD hm.own;exact⟨a,ss,cap,rfl,hm,hl,by rw[<-hl,aJ]⟩
theorem Rs.src{a:Option Addr}{cap:Nat}{ss:List ByteArray}(m:Rs w w' (.slice a ss.length cap) ss)(hl:ss.length<=1000):ss.length=0\/∃ad,a=some ad/\∀j u,(ss.map Value.string)[j]?=some u->w'.cell? (ad.add j)=some u:=
 QU (Strs.eO m.own (by omega))
set_option maxHeartbeats 1000000 in
theorem D8(s:ByteArray)(hs:s.size<=12)(w:World):Calls prog 156 #[.int .i64 0,.string s,.bool true] w (jJ w (jN 0 true (bH s))):=by
 obtain⟨i0,hi0,hz0,hz1,hz2⟩:=info_parts fO;have hm:=Rs.new w;go_enter Tryz.func156,Tryz.ntmps156
 go_wp2
 go_loopw [7,10] (λov ii wr=>∃(i:Nat) (ss:List ByteArray),ii=.int .i64 ((i:Nat):Int)/\i<=s.size/\Rs w wr ov ss/\Hid (ss.map bH=qf 0 true (bH s) i)) (λ_ ii _=>s.size-(intOf ii).toNat)
 case atStart=>exact⟨0,[],rfl,az _,hm,aH rfl⟩
 case round=>
  clear hm;obtain⟨i,ss,rfl,hi,hm,fK⟩:=hrel;by_cases hlt:i<s.size
  .have h1:((i:Nat):Int)<((s.size:Nat):Int):=by omega
   have dK:=aH hlt;have hb:=lg dK.out 84 (by decide);have hse:=jZ 0 true (bH s) i;have hln:=lV 0 true (bH s) i;have hsl:ss.length<=24:=(by have e:=congrArg List.length fK.out;rw[aJ]at e;omega);obtain⟨ao,co,rfl,-,-⟩:=bD hm.own;by_cases hc:(bH s)[i]?=some (UInt8.ofNat 84)
   .rw[decide_eq_true hc]at hb
    have hF:=AR s hs true i hc 1 70 rfl rfl;have HF:=aH hF;have lT:=aH hse;clear hc hF hse hln hlt
    go_wp2_with (first
     |(go_at_call 193;refine(HF.out _).mono ?_;rintro e w2 hr;obtain⟨af,sf,cf,rfl,hmf,hlf,hnf⟩:=hr.open;have hm2:=hm.to hmf.ext;have hn1:sf.length<=1:=(by rw[hnf];exact zz _ _ _);clear hnf;have HLF:=aH hlf;clear hlf)
     |(at_builtin;refine bQ rfl (.tmp 65) (.tmp 68) 22 rfl w.heap.size 9 i0 (.string ⟨#[]⟩) 1 16 underlying22 hi0 hz0 hz1 hz2 rfl (by decide) (.slice ao ss.length co) ss.length (ss.map Value.string) rfl hm2.own af sf.length cf (sf.map Value.string) rfl (by simp) (hmf.src (by omega)) Dt (by unfold maxLen;omega) (by omega) hm2.ext.size ?_;intro v5 w5 fI hg5 hl5;have hm:=hm2.puts fI hg5))
    go_roundw
    case rel=>exact⟨i+1,ss++sf,by go_num,dK.out,hm,aH (by rw[aU,fK.out,lT.out,HLF.out];rfl)⟩
    case measure=>have:=dK.out;simp[intOf];omega
   .rw[decide_eq_false hc]at hb
    have hno:jH 0 true (bH s) i=[]:=(by show gP true (bH s) i=[];exact if_neg hc);rw[hno,bq]at hse;have lT:=aH hse;clear hc hse hln hno hlt;go_wp2
    go_roundw
    case rel=>exact⟨i+1,ss,by go_num,dK.out,hm,aH (by rw[fK.out,lT.out])⟩
    case measure=>have:=dK.out;simp[intOf];omega
  .have hie:i=s.size:=by omega
   subst hie;go_wp2
   go_ret
   exact⟨_,ss,rfl,hm,by rw[fK.out,lW]⟩
set_option maxHeartbeats 1000000 in
theorem CR(s:ByteArray)(hs:s.size<=12)(w:World):Calls prog 156 #[.int .i64 0,.string s,.bool false] w (jJ w (jN 0 false (bH s))):=by
 obtain⟨i0,hi0,hz0,hz1,hz2⟩:=info_parts fO;have hm:=Rs.new w;go_enter Tryz.func156,Tryz.ntmps156
 go_wp2
 go_loopw [7,10] (λov ii wr=>∃(i:Nat) (ss:List ByteArray),ii=.int .i64 ((i:Nat):Int)/\i<=s.size/\Rs w wr ov ss/\Hid (ss.map bH=qf 0 false (bH s) i)) (λ_ ii _=>s.size-(intOf ii).toNat)
 case atStart=>exact⟨0,[],rfl,az _,hm,aH rfl⟩
 case round=>
  clear hm;obtain⟨i,ss,rfl,hi,hm,fK⟩:=hrel;by_cases hlt:i<s.size
  .have h1:((i:Nat):Int)<((s.size:Nat):Int):=by omega
   have dK:=aH hlt;have hb:=lg dK.out 70 (by decide);have hse:=jZ 0 false (bH s) i;have hln:=lV 0 false (bH s) i;have hsl:ss.length<=24:=(by have e:=congrArg List.length fK.out;rw[aJ]at e;omega);obtain⟨ao,co,rfl,-,-⟩:=bD hm.own;by_cases hc:(bH s)[i]?=some (UInt8.ofNat 70)
   .rw[decide_eq_true hc]at hb
    have hF:=AR s hs false i hc (-1) 84 rfl rfl;have HF:=aH hF;have lT:=aH hse;clear hc hF hse hln hlt
    go_wp2_with (first
     |(go_at_call 193;refine(HF.out _).mono ?_;rintro e w2 hr;obtain⟨af,sf,cf,rfl,hmf,hlf,hnf⟩:=hr.open;have hm2:=hm.to hmf.ext;have hn1:sf.length<=1:=(by rw[hnf];exact zz _ _ _);clear hnf;have HLF:=aH hlf;clear hlf)
     |(at_builtin;refine bQ rfl (.tmp 78) (.tmp 81) 22 rfl w.heap.size 9 i0 (.string ⟨#[]⟩) 1 16 underlying22 hi0 hz0 hz1 hz2 rfl (by decide) (.slice ao ss.length co) ss.length (ss.map Value.string) rfl hm2.own af sf.length cf (sf.map Value.string) rfl (by simp) (hmf.src (by omega)) Dt (by unfold maxLen;omega) (by omega) hm2.ext.size ?_;intro v5 w5 fI hg5 hl5;have hm:=hm2.puts fI hg5))
    go_roundw
    case rel=>exact⟨i+1,ss++sf,by go_num,dK.out,hm,aH (by rw[aU,fK.out,lT.out,HLF.out];rfl)⟩
    case measure=>have:=dK.out;simp[intOf];omega
   .rw[decide_eq_false hc]at hb
    have hno:jH 0 false (bH s) i=[]:=(by show gP false (bH s) i=[];exact if_neg hc);rw[hno,bq]at hse;have lT:=aH hse;clear hc hse hln hno hlt;go_wp2
    go_roundw
    case rel=>exact⟨i+1,ss,by go_num,dK.out,hm,aH (by rw[fK.out,lT.out])⟩
    case measure=>have:=dK.out;simp[intOf];omega
  .have hie:i=s.size:=by omega
   subst hie;go_wp2
   go_ret
   exact⟨_,ss,rfl,hm,by rw[fK.out,lW]⟩
end
section
open Go.RowKit
open bz (rZ GB qM fr plc VH VI can)
variable {W:World} {g:Nat} {l:List UInt8}
def J6(W:World)(g:Nat)(l:List UInt8):Prop:=∃cs:Array Value,W.heap[g]?=some (.cells cs 5 (cs.size,cs.size+1))/\l.length<=cs.size/\∀j (h:j<l.length),cs[j]?=some (.int .u8 ((l[j]).toNat:Int))
theorem J6.new(W:World)(s:ByteArray):J6 (Lib.bytesWorld W 5 s) W.heap.size s.data.toList:=by
 refine⟨_,Lib.bytesWorld_at_new W _ s,?_,λj hj=>?_⟩
 .unfold Lib.bytesCells;simp
 .unfold Lib.bytesCells
  have hj':j<s.data.size:=by simpa using hj
  rw[Array.getElem?_append,if_pos (by simpa using hj'),Array.getElem?_map];simp only[Array.getElem_toList];rw[jG hj'];rfl
theorem PO{w:World}(h:Ext w W)(s:ByteArray):Ext w (Lib.bytesWorld W 5 s):=by
 have hz:=Lib.bytesWorld_size W 5 s;have hz':=h.size;have e:(Lib.bytesWorld W 5 s).os=W.os/\(Lib.bytesWorld W 5 s).tape=W.tape/\(Lib.bytesWorld W 5 s).output=W.output:=by
  unfold Lib.bytesWorld World.freeze;split <;> exact⟨rfl,rfl,rfl⟩
 exact ay h ⟨e.1,e.2.1,e.2.2,by omega,λk hk=>Lib.bytesWorld_at_old W _ s k hk⟩
theorem J6.cell{W:World}{g:Nat}{l:List UInt8}(h:J6 W g l){k:Nat}(hk:k<l.length):W.cell? ⟨g,k,none⟩=some (.int .u8 ((l[k]).toNat:Int)):=by
 obtain⟨cs,h1,h2,h3⟩:=h;simp[World.cell?,h1,h3 k hk]
theorem J6.frozen{W:World}{g:Nat}{l:List UInt8}(h:J6 W g l){k:Nat}(hk:k<l.length):W.frozen? ⟨g,k,none⟩=false:=by
 obtain⟨cs,h1,h2,h3⟩:=h;simp[World.frozen?,h1];omega
theorem J6.keep{W':World}(h:J6 W g l)(hk:W'.heap[g]?=W.heap[g]?):J6 W' g l:=by
 obtain⟨cs,h1,h2,h3⟩:=h;exact⟨cs,hk.trans h1,h2,h3⟩
theorem J6.lt(h:J6 W g l):g<W.heap.size:=by
 obtain⟨cs,h1,h2,h3⟩:=h;exact(fH.1 h1).1
theorem J6.set{W:World}{g:Nat}{l:List UInt8}(h:J6 W g l){k:Nat}(hk:k<l.length)(x:UInt8)(n:Int)(hn:n=(x.toNat:Int)):J6 (W.setCell ⟨g,k,none⟩ (.int .u8 n)) g (l.set k x):=by
 obtain⟨cs,h1,h2,h3⟩:=h;subst hn;refine⟨cs.setIfInBounds k (.int .u8 (x.toNat:Int)),?_,by simpa using h2,λj hj=>?_⟩
 .have hlt:g<W.heap.size:=(fH.1 h1).1
  unfold World.setCell;simp[Array.getElem?_modify,h1]
 .rw[gH]at hj
  rw[Array.getElem?_setIfInBounds];by_cases e:k=j
  .subst e
   rw[if_pos rfl,if_pos (by omega)];simp
  .rw[if_neg e,h3 j hj];simp[e]
theorem J6.back{n cap:Nat}(h:J6 W g l)(hn:n=l.length):(convert 38 9 (.slice (some ⟨g,0,none⟩) n cap)).run prog W=.ok (.string ⟨l.toArray⟩) W:=by
 subst hn;refine run_convert_bytes_back W _ _ 5 _ cap l underlying38 underlying5 underlying9 λj hj=>?_
 have:(⟨g,0,none⟩:Addr).add j=⟨g,j,none⟩:=by unfold Addr.add;split <;> simp_all
 rw[this];exact h.cell hj
end
section
open Go.RowKit
open bz (Stp pk o5 J8)
def cb(s:ByteArray)(i:Int):UInt8:=(pk (bH s) i).getD 0
theorem uX(s:ByteArray)(i:Int)(n:Nat)(m:Int)(hm:m=n)(h0:0<n)(hn:n<256):((((cb s i).toNat:Nat):Int)== m)=decide (pk (bH s) i=some (UInt8.ofNat n)):=by
 subst hm;rw[Gz _ _ hn,iW];simp only[beq_iff_eq,decide_eq_true_eq];unfold cb;cases h:pk (bH s) i with
 |none=>
  simp only[Option.getD_none,reduceCtorEq,iff_false];intro e;have:=congrArg UInt8.toNat e;rw[UInt8.toNat_ofNat_of_lt' (by simpa using hn)]at this;simp at this;omega
 |some c=>simp
theorem jc(s:ByteArray)(i:Int)(w:World):Calls prog 154 #[.string s,.int .i64 i] w λe w'=>e=.returned (.int .u8 (((cb s i).toNat:Nat):Int))/\RD w w':=by
 by_cases h0:i<0
 .have hv:cb s i=0:=by unfold cb pk;rw[if_neg (by omega)];rfl
  rw[hv];go_enter Tryz.func154,Tryz.ntmps154
  go_wp2
  go_ret
  exact⟨rfl,(by first|exact su _|exact xc _ _|exact wY _ _ _|exact wW _ _ _ _)⟩
 .by_cases h1:((s.size:Nat):Int)<=i
  .have hv:cb s i=0:=by
    unfold cb;cases h:pk (bH s) i with
    |none=>rfl
    |some c=>
     obtain⟨n,rfl,h2⟩:=bz.jA.1 h;have:=bz.fU h2;rw[bN]at this;omega
   rw[hv];go_enter Tryz.func154,Tryz.ntmps154
   go_wp2
   go_ret
   exact⟨rfl,(by first|exact su _|exact xc _ _|exact wY _ _ _|exact wW _ _ _ _)⟩
  .obtain⟨n,rfl⟩:∃n:Nat,i=(n:Int):=⟨i.toNat,by omega⟩
   have hn:n<s.size:=(by omega);have hv:cb s (n:Int)=s[n]'hn:=(by unfold cb;rw[bz.Cv,jT hn];rfl);have hnl:((n:Nat):Int)<((s.size:Nat):Int):=(by omega);rw[hv];clear hv;go_enter Tryz.func154,Tryz.ntmps154
   go_wp2
   go_ret
   exact⟨rfl,(by first|exact su _|exact xc _ _|exact wY _ _ _|exact wW _ _ _ _)⟩
theorem WT(l:List UInt8):bH ⟨l.toArray⟩=l:=by unfold bH;simp
theorem nR(s:ByteArray)(_hs:s.size<=100)(i k:Nat)(hi:i<s.size)(hk:k<s.size)(a b:UInt8)(w:World):Calls prog 155 #[.string s,.int .i64 ((i:Nat):Int),.int .u8 ((a.toNat:Nat):Int),.int .i64 ((k:Nat):Int),.int .u8 ((b.toNat:Nat):Int)] w λe w'=>∃u,e=.returned (.string u)/\bH u=((bH s).set i a).set k b/\Ext w w':=by
 have hcv:=Lib.run_convert_string_bytes (P:=prog) w 9 38 5 s underlying9 underlying38 underlying5;have hX:=PO (Below.refl _ _:Ext w w) s;have hB:=J6.new w s;have hbl:(s.data.toList).length=s.size:=GA s;have hil:((i:Nat):Int)<((s.size:Nat):Int):=by omega
 have hkl:((k:Nat):Int)<((s.size:Nat):Int):=by omega
 have ebd:s.data.toList=bH s:=rfl;rw[ebd]at hB hbl;clear ebd;have fz:=hB.frozen (k:=i) (by omega);have cz:=hB.cell (k:=i) (by omega);generalize (bH s)[i]'(by omega)=u0 at cz;have hB1:=hB.set (k:=i) (by omega) a _ rfl;have hX1:=hX.setCell (p:=⟨w.heap.size,i,none⟩) (ai _) (.int .u8 ((a.toNat:Nat):Int));have fz1:=hB1.frozen (k:=k) (by rw[gH];omega);have cz1:=hB1.cell (k:=k) (by rw[gH];omega);generalize ((bH s).set i a)[k]'(by rw[gH];omega)=u1 at cz1;have hB2:=hB1.set (k:=k) (by rw[gH];omega) b _ rfl;have hX2:=hX1.setCell (p:=⟨w.heap.size,k,none⟩) (ai _) (.int .u8 ((b.toNat:Nat):Int));have hbk:=hB2.back (n:=s.size) (cap:=grownCap w s.size 0 5) (by rw[gH,gH];omega);have HX2:=aH hX2;clear hB hB1 hB2 hX hX1 hX2 hbl;go_enter Tryz.func155,Tryz.ntmps155
 go_wp2
 go_ret
 exact⟨_,rfl,WT _,HX2.out⟩
theorem yo(w:World):Calls prog 95 #[.bool true] w λe w'=>e=.returned (.tuple #[.int .u8 76,.int .u8 82])/\w'=w:=by
 go_enter Tryz.func95,Tryz.ntmps95
 go_wp2
 go_ret2
 exact⟨rfl,rfl⟩
theorem yn(w:World):Calls prog 95 #[.bool false] w λe w'=>e=.returned (.tuple #[.int .u8 82,.int .u8 76])/\w'=w:=by
 go_enter Tryz.func95,Tryz.ntmps95
 go_wp2
 go_ret2
 exact⟨rfl,rfl⟩
end
section
open Go.RowKit
open bz (Stp pk lN)
def F6(me bar:UInt8)(s:Stp)(i:Nat):List Stp:=(List.range i).flatMap (lN me bar s)
theorem EO(me bar:UInt8)(s:Stp)(i:Nat):F6 me bar s (i+1)=F6 me bar s i++lN me bar s i:=by simp[F6,wV]
theorem RP(me bar:UInt8)(s:Stp)(i:Nat):(F6 me bar s i).length<=i:=by
 induction i with
 |zero=>simp[F6]
 |succ i ih=>
  rw[EO,aj];have:(lN me bar s i).length<=1:=by unfold lN;split <;> simp
  omega
theorem Ya(s:ByteArray)(i:Int){c:UInt8}(h0:c≠0):((((cb s i).toNat:Nat):Int) != ((c.toNat:Nat):Int))=!decide (pk (bH s) i=some c):=by
 have hp:0<c.toNat:=by
  rcases kg c.toNat with e|e
  .exact absurd (UInt8.toNat_inj.1 (by rw[e];rfl)) h0
  .exact e
 rw[bne,uX s i c.toNat _ rfl hp (by simpa using c.toNat_lt)];simp
set_option maxHeartbeats 1000000 in
theorem oN(s:ByteArray)(hs:s.size<=12)(me bar:UInt8)(acv:bar≠0)(w:World):Calls prog 98 #[.string s,.int .u8 ((me.toNat:Nat):Int),.int .u8 ((bar.toNat:Nat):Int)] w (jJ w (F6 me bar (bH s) s.size)):=by
 obtain⟨i0,hi0,hz0,hz1,hz2⟩:=info_parts fO;have hm:=Rs.new w;have adR:=aH acv;clear acv;go_enter Tryz.func98,Tryz.ntmps98
 go_wp2
 go_loopw [7,8,12] (λov _ ii wr=>∃(i:Nat) (ss:List ByteArray),ii=.int .i64 ((i:Nat):Int)/\i<=s.size/\Rs w wr ov ss/\Hid (ss.map bH=F6 me bar (bH s) i)) (λ_ _ ii _=>s.size-(intOf ii).toNat)
 case atStart=>exact⟨0,[],rfl,az _,hm,aH rfl⟩
 case round=>
  clear hm;obtain⟨i,ss,rfl,hi,hm,fK⟩:=hrel;by_cases hlt:i<s.size
  .have h1:((i:Nat):Int)<((s.size:Nat):Int):=by omega
   have dK:=aH hlt;have hb:((((s[i]'dK.out).toNat:Nat):Int)== 46)=decide ((bH s)[i]?=some 46):=lg dK.out 46 (by decide);have hse:=EO me bar (bH s) i;have hln:=RP me bar (bH s) i;have hsl:ss.length<=12:=(by have e:=congrArg List.length fK.out;rw[aJ]at e;omega);obtain⟨ao,co,rfl,-,-⟩:=bD hm.own;obtain⟨LF,hwb⟩:wrap64 (((i:Nat):Int)-1)=((i:Nat):Int)-1/\wrap64 (((i:Nat):Int)+1)=((i:Nat):Int)+1:=⟨dS (by omega),dS (by omega)⟩;have hc1:=Ya s (((i:Nat):Int)-1) adR.out;have hc2:=Ya s (((i:Nat):Int)+1) adR.out;by_cases hc:(bH s)[i]?=some 46
   .rw[decide_eq_true hc]at hb
    by_cases hp:pk (bH s) (((i:Nat):Int)-1)=some bar
    .rw[decide_eq_true hp]at hc1
     have hno:lN me bar (bH s) i=[]:=if_neg (λk=>k.2.1 hp);rw[hno,bq]at hse;have lT:=aH hse;clear hse hln hno hlt;clear hp hc hc2;go_wp2_with (go_at_call 154;refine(jc s _ _).mono ?_;rintro e w2 ⟨rfl,hr⟩;have hm:=hm.to (bS hr);clear hr)
     go_roundw
     case rel=>exact⟨i+1,ss,by go_num,dK.out,hm,aH (by rw[fK.out,lT.out])⟩
     case measure=>have:=dK.out;simp[intOf];omega
    .rw[decide_eq_false hp]at hc1
     by_cases hq:pk (bH s) (((i:Nat):Int)+1)=some bar
     .rw[decide_eq_true hq]at hc2
      have hno:lN me bar (bH s) i=[]:=if_neg (λk=>k.2.2 hq);rw[hno,bq]at hse;have lT:=aH hse;clear hse hln hno hlt;clear hp hq hc;go_wp2_with (go_at_call 154;refine(jc s _ _).mono ?_;rintro e w2 ⟨rfl,hr⟩;have hm:=hm.to (bS hr);clear hr)
      go_roundw
      case rel=>exact⟨i+1,ss,by go_num,dK.out,hm,aH (by rw[fK.out,lT.out])⟩
      case measure=>have:=dK.out;simp[intOf];omega
     .rw[decide_eq_false hq]at hc2
      have hmv:lN me bar (bH s) i=[(bH s).set i me]:=if_pos ⟨hc,hp,hq⟩;rw[hmv]at hse;have lT:=aH hse;have hs1:=nR s (by omega) i i dK.out dK.out me me;have ou:=aH hs1;clear hp hq hc hs1 hmv hse hln hlt
      go_wp2_with (first
       |(go_at_call 154;refine(jc s _ _).mono ?_;rintro e w2 ⟨rfl,hr⟩;have hm:=hm.to (bS hr);clear hr)
       |(go_at_call 155;refine(ou.out _).mono ?_;rintro e w3 ⟨u,rfl,hu,hr⟩;have hm:=hm.to hr;have HU:=aH hu;clear hr hu)
       |(at_builtin;refine bQ rfl (.tmp 35) (.tmp 42) 22 rfl w.heap.size 9 i0 (.string ⟨#[]⟩) 1 16 underlying22 hi0 hz0 hz1 hz2 rfl (by decide) (.slice ao ss.length co) ss.length (ss.map Value.string) rfl (hm.own.alloc _) _ 1 _ [.string u] rfl rfl (.inr ⟨_,rfl,cK (bP _ _ _)⟩) dH (by unfold maxLen;omega) (by omega) (by have:=hm.ext.size;rw[fw];omega) ?_;intro v5 w5 fI hg5 hl5;have hm:=hm.put fI hg5))
      go_roundw
      case rel=>exact⟨i+1,ss++[u],by go_num,dK.out,hm,aH (by rw[aU,fK.out,lT.out];simp[HU.out])⟩
      case measure=>have:=dK.out;simp[intOf];omega
   .rw[decide_eq_false hc]at hb
    have hno:lN me bar (bH s) i=[]:=if_neg (λk=>hc k.1);rw[hno,bq]at hse;have lT:=aH hse;clear hse hln hno hlt;clear hc hc1 hc2;go_wp2
    go_roundw
    case rel=>exact⟨i+1,ss,by go_num,dK.out,hm,aH (by rw[fK.out,lT.out])⟩
    case measure=>have:=dK.out;simp[intOf];omega
  .have hie:i=s.size:=by omega
   subst hie;go_wp2
   go_ret
   exact⟨_,ss,rfl,hm,fK.out⟩
end
end Go.Proofs.YteknjeohbcgpdaaGreatDoor