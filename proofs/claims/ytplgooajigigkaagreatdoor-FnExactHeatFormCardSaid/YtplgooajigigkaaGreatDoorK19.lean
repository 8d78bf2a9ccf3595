/- 19 -/
import Derived.Test.YtplgooajigigkaaGreatDoorK18
import Derived.Shelf.Strings.SlTrimAscii
import Derived.Shelf.Small.Wraps
import Derived.Shelf.Utf8.RuneCount
import Derived.Shelf.Strconv.Atoi
import Derived.Shelf.Strconv.Itoa3
import Derived.Shelf.Strings.Shaped
import Derived.Shelf.Sort.Plain
import Derived.Shelf.Strconv.AppendUint10
import Derived.Shelf.Strings.SplitShaped
import Derived.Shelf.Strings.Explode
import Derived.Shelf.Unicode.DecodeLast
import Derived.Shelf.Slices.Clone
import Derived.Shelf.Slices.SearchI
import Derived.Shelf.Slices.Cells
import Derived.Shelf.Slices.In.SortNone
import Derived.Shelf.SlicesE.Clone
import Derived.Shelf.SlSortCmp.NoneTotal
namespace Go.Proofs.YtplgooajigigkaaGreatDoor
open Go.RowKit
variable {z zs:List Int} {d k:Nat}
theorem UX(ha:z.Pairwise (· < ·))(h1:∀y,y∈z.take d->y<(k:Int))(h2:∀y,y∈z.drop d->(k:Int)<=y):oV z (k:Int)=true↔∃zs,z.drop d=(k:Int):: zs:=by
 unfold oV;rw[decide_eq_true_iff];constructor
 .intro h
  rw[<-kX d z]at h;rcases bq.1 h with h|h
  .have:=h1 _ h;omega
  .cases hd:z.drop d with
   |nil=>rw[hd]at h;cases h
   |cons y zs=>
    rw[hd]at h;rcases jk.1 h with h|h
    .exact⟨zs,by rw[h]⟩
    .have hp:=ha.sublist (List.drop_sublist d z)
     rw[hd]at hp;have q1:=(lu.1 hp).1 _ h;have q2:=h2 y (by rw[hd];simp);omega
 .rintro⟨zs,e⟩
  exact wh (i:=d) (by rw[e];simp)
theorem UU(ha:z.Pairwise (· < ·))(h1:∀y,y∈z.take d->y<(k:Int))(e:z.drop d=(k:Int):: zs):z.drop (d+1)=zs/\(∀y,y∈z.take (d+1)->y<((k+1:Nat):Int))/\∀y,y∈z.drop (d+1)->((k+1:Nat):Int)<=y:=by
 have e1:z.drop (d+1)=zs:=by rw[<-List.drop_drop,e];rfl
 refine⟨e1,λy hy=>?_,λy hy=>?_⟩
 .have hlt:d<z.length:=by
   rcases ib d z.length with c|c
   .exact c
   .rw[List.drop_eq_nil_of_le c]at e;cases e
  rw[bJ hlt]at hy;rcases bq.1 hy with hy|hy
  .have:=h1 y hy;omega
  .simp at hy
   have:z[d]=(k:Int):=by
    have q:=kR hlt;rw[e]at q;injection q with q;exact q.symm
   omega
 .rw[e1]at hy
  have hp:=ha.sublist (List.drop_sublist d z);rw[e]at hp;have:=(lu.1 hp).1 y hy;omega
theorem UW(h1:∀y,y∈z.take d->y<(k:Int))(h2:∀y,y∈z.drop d->(k:Int)<=y)(hn:oV z (k:Int)=false):(∀y,y∈z.take d->y<((k+1:Nat):Int))/\∀y,y∈z.drop d->((k+1:Nat):Int)<=y:=by
 refine⟨λy hy=>by have:=h1 y hy;omega,λy hy=>?_⟩;have:=h2 y hy;have hne:y≠(k:Int):=λe=>by
  subst e;have:oV z (k:Int)=true:=by unfold oV;rw[decide_eq_true_iff];exact wh hy
  rw[this]at hn;cases hn
 omega
def aen(l z:List Int)(w:World)(e:Ending)(w':World):Prop:=∃v',e=.returned v'/\w'.ownsRow w.heap.size 3 1 v' (tC l z).length ((tC l z).map (Value.int .i64))/\Ext w w'
theorem S9{w:World}{b off q cap:Nat}{y:Int}(h:Ints w (.slice (some ⟨b,off,none⟩) (q+1) cap) (y :: zs)):Ints w (.slice (some ⟨b,off+1,none⟩) q (cap-1)) zs:=by
 obtain⟨a,c,e,h1,h2,h3⟩:=h;simp only[il,gI,Nat.add_right_cancel_iff]at e;obtain⟨rfl,rfl,rfl⟩:=e;simp only[gI]at h1 h2 h3;obtain⟨b',off',e,hc⟩:=h3 (by omega);simp only[bU,Addr.mk.injEq,and_true]at e;obtain⟨rfl,rfl⟩:=e;refine⟨_,_,rfl,by omega,by omega,λ_=>⟨_,_,rfl,λi hi=>?_⟩⟩;have:=hc (i+1) (by omega);rw[show off+1+i=off+(i+1) by omega,this];simp[jl]
set_option maxHeartbeats 2000000 in
set_option maxRecDepth 100000 in
theorem C8(v u:Value)(l z:List Int)(w:World)(h:Ints w v l)(g:Ints w u z)(hz:z.Pairwise (· < ·))(hz0':∀y,y∈z->0<=y)(hsz:l.length<=1000000000):
 Calls Tryz.prog 175 #[v,u] w (aen l z w):=by
 obtain⟨a,cap,rfl,hlc,hcap,hc⟩:=h;obtain⟨i0,hi,hz0,hz1,hz2⟩:=info_parts iU;go_enter Tryz.func175,Tryz.ntmps175
 go_wp2
 go_loopw [1,5,6,7,11] (λpv o _ _ i wr=>∃k d:Nat,k<=l.length/\i=.int .i64 k/\wr.ownsRow w.heap.size 3 1 o (Kw l z k).length ((Kw l z k).map (Value.int .i64))/\Ext w wr/\Ints w pv (z.drop d)/\(∀y,y∈z.take d->y<(k:Int))/\∀y,y∈z.drop d->(k:Int)<=y) (λ_ _ _ _ i _=>l.length-(intOf i).toNat)
 case atStart=>exact⟨0,0,aU _,rfl,iB w _ (aJ _) _,(gz _ _).alloc (aJ _) _,g,by simp,λy hy=>hz0' y (by simpa using hy)⟩
 case round=>
  obtain⟨k,d,hk,rfl,hown,kP,hI,hT,hD⟩:=hrel;by_cases hlt:k<l.length
  .obtain⟨b,off,rfl,hcell⟩:=hc (by omega)
   have hck:=hcell k hlt;have ou:=fw kP hck;have hwl:=AA l z k;obtain⟨ao,co,rfl,_,_⟩:=bT hown;clear hcell hc hck;by_cases hin:oV z (k:Int)=true
   .obtain⟨zs,e⟩:=(UX hz hT hD).1 hin
    have HW:=aW (UY l z k hin);have HN:=aW (UU hz hT e);rw[e]at hI;have HI:=aW hI;obtain⟨pa,pc,rfl,hpc,hpl,wY⟩:=hI;obtain⟨q,hq⟩:=fu zs.length;have hq1:((k:Int):: zs).length=q+1:=(by rw[hq];rfl);rw[hq1]at hpc hpl wY HI ⊢;obtain⟨bp,op,rfl,hcp⟩:=wY (by omega);have hc0:=fw kP (hcp 0 (by omega));have e0:jl ((k:Int):: zs) 0=(k:Int):=(by simp[jl]);rw[e0,qy]at hc0;have HZ:=aW hz;have HQ:=aW hq;clear hcp wY e e0 hin hT hD hz hq1 hq;by_cases hq0:q=0
    .subst hq0
     go_wp2
     go_roundw
     case rel=>exact⟨k+1,d+1,by omega,by go_num,by rw[HW.out];exact hown,kP,by rw[HN.out.1,eP HQ.out.symm];exact Ints.nil _ _ _,HN.out.2.1,HN.out.2.2⟩
     case measure=>simp[intOf];omega
    .have hq1:¬(q+1=1):=by omega
     go_wp2
     go_roundw
     case rel=>exact⟨k+1,d+1,by omega,by go_num,by rw[HW.out];exact hown,kP,by rw[HN.out.1];exact S9 HI.out,HN.out.2.1,HN.out.2.2⟩
     case measure=>simp[intOf];omega
   .have hin':oV z (k:Int)=false:=by simpa using hin
    have HW:=aW (Qi l z k hin');have HN:=aW (UW hT hD hin');have HI:=aW hI;have HZ:=aW hz;obtain⟨pa,pc,rfl,hpc,hpl,wY⟩:=hI;cases hd:z.drop d with
    |nil=>
     rw[hd]at HI;clear wY hT hD hin hz;go_wp2_with (at_builtin;refine eO rfl (.tmp 28) (.tmp 30) 41 rfl w.heap.size 3 i0 (.int .i64 0) 1 8 Tryz.underlying41 hi hz0 hz1 hz2 rfl (by decide) (.slice ao (Kw l z k).length co) _ _ rfl (hown.alloc _) _ 1 _ [Value.int .i64 (jl l k)] rfl rfl (.inr ⟨_,rfl,fD (dW _ _ _)⟩) one_cell (by unfold maxLen;omega) (by omega) (by have:=kP.size;simp;omega) ?_;intro v1 w1 ho1 hg1 _)
     go_roundw
     case rel=>
      refine⟨k+1,d,by omega,by go_num,?_,Eg kP hown hg1,by rw[hd];exact HI.out,HN.out.1,HN.out.2⟩;rw[HW.out];simpa using ho1
     case measure=>simp[intOf];omega
    |cons y zs=>
     rw[hd]at HI hpc hpl wY;have hyk:¬(y=(k:Int)):=λe=>by
      have:=(UX HZ.out hT hD).2 ⟨zs,by rw[hd,e]⟩;rw[hin']at this;cases this
     have asE:(y == (k:Int))=false:=(by simpa using hyk);obtain⟨q,hq⟩:=fu zs.length;have hq1:(y :: zs).length=q+1:=(by rw[hq];rfl);rw[hq1]at hpc hpl wY HI ⊢;obtain⟨bp,op,rfl,hcp⟩:=wY (by omega);have hc0:=fw kP (hcp 0 (by omega));have e0:jl (y :: zs) 0=y:=(by simp[jl]);rw[e0,qy]at hc0;have HQ:=aW hd;clear wY hcp e0 hT hD hin hz hq1 hq hyk hd;go_wp2_with (at_builtin;refine eO rfl (.tmp 28) (.tmp 30) 41 rfl w.heap.size 3 i0 (.int .i64 0) 1 8 Tryz.underlying41 hi hz0 hz1 hz2 rfl (by decide) (.slice ao (Kw l z k).length co) _ _ rfl (hown.alloc _) _ 1 _ [Value.int .i64 (jl l k)] rfl rfl (.inr ⟨_,rfl,fD (dW _ _ _)⟩) one_cell (by unfold maxLen;omega) (by omega) (by have:=kP.size;simp;omega) ?_;intro v1 w1 ho1 hg1 _)
     go_roundw
     case rel=>
      refine⟨k+1,d,by omega,by go_num,?_,Eg kP hown hg1,by rw[HQ.out];exact HI.out,HN.out.1,HN.out.2⟩;rw[HW.out];simpa using ho1
     case measure=>simp[intOf];omega
  .go_wp2
   go_ret
   have e:k=l.length:=(by omega);subst e;exact⟨_,rfl,hown,kP⟩
end Go.Proofs.YtplgooajigigkaaGreatDoor
namespace Go.Proofs
open Go.Shelf
def Tryz.LA:Go.Shelf.Ren:=⟨fun | 122=>102 | 215=>142|n=>n,fun | 3=>3 | 4=>4|n=>n,fun|n=>n⟩
theorem Tryz.aac:Go.Proofs.Lays.n122 Tryz.prog Tryz.LA:={
 mixed:=by kernel_rfl
 f122:=Tryz.func102.trans (congrArg some (by kernel_rfl))
 f215:=Tryz.func142.trans (congrArg some (by kernel_rfl))
 t3:=Tryz.underlying3
 a3:=Tryz.isAgg3
 z3:=Tryz.sizeOf3
 v3:=Tryz.zeroValue3
 t4:=Tryz.underlying4
 a4:=Tryz.isAgg4
 z4:=Tryz.sizeOf4
 v4:=Tryz.zeroValue4 }
open Go.RowKit in
theorem Tryz.cmp_Compare_int(x y:Int)(w:World):
 Calls Tryz.prog 102 #[.int .i64 x,.int .i64 y] w λe w'=>e=.returned (.int .i64 (Lib.compareInt x y))/\w'=w:=Any.cmp_Compare_int Tryz.aac x y w
def Tryz.Lx:Go.Shelf.Ren:=⟨fun | 189=>202 | 125=>201 | 257=>244 | 128=>242 | 129=>243 | 294=>280 | 295=>281 | 296=>282 | 297=>283 | 298=>284 | 299=>285 | 216=>286 | 300=>287 | 301=>288 | 328=>302 | 329=>276 | 330=>277 | 331=>303 | 332=>304 | 215=>142 | 343=>306|n=>n,fun | 28=>41 | 3=>3 | 46=>141 | 0=>0 | 51=>263 | 53=>67 | 4=>4 | 183=>257 | 182=>256 | 131=>165 | 5=>5 | 9=>9 | 218=>290 | 222=>294 | 228=>308 | 229=>309|n=>n,fun|n=>n⟩
theorem Tryz.QP:Go.Proofs.Lays.n189 Tryz.prog Tryz.Lx:={
 mixed:=by kernel_rfl
 f125:=Tryz.func201.trans (congrArg some (by kernel_rfl))
 f128:=Tryz.func242.trans (congrArg some (by kernel_rfl))
 f129:=Tryz.func243.trans (congrArg some (by kernel_rfl))
 f189:=Tryz.func202.trans (congrArg some (by kernel_rfl))
 f215:=Tryz.func142.trans (congrArg some (by kernel_rfl))
 f216:=Tryz.func286.trans (congrArg some (by kernel_rfl))
 f257:=Tryz.func244.trans (congrArg some (by kernel_rfl))
 f294:=Tryz.func280.trans (congrArg some (by kernel_rfl))
 f295:=Tryz.func281.trans (congrArg some (by kernel_rfl))
 f296:=Tryz.func282.trans (congrArg some (by kernel_rfl))
 f297:=Tryz.func283.trans (congrArg some (by kernel_rfl))
 f298:=Tryz.func284.trans (congrArg some (by kernel_rfl))
 f299:=Tryz.func285.trans (congrArg some (by kernel_rfl))
 f300:=Tryz.func287.trans (congrArg some (by kernel_rfl))
 f301:=Tryz.func288.trans (congrArg some (by kernel_rfl))
 f328:=Tryz.func302.trans (congrArg some (by kernel_rfl))
 f329:=Tryz.func276.trans (congrArg some (by kernel_rfl))
 f330:=Tryz.func277.trans (congrArg some (by kernel_rfl))
 f331:=Tryz.func303.trans (congrArg some (by kernel_rfl))
 f332:=Tryz.func304.trans (congrArg some (by kernel_rfl))
 f343:=Tryz.func306.trans (congrArg some (by kernel_rfl))
 t0:=Tryz.underlying0
 a0:=Tryz.isAgg0
 z0:=Tryz.sizeOf0
 v0:=Tryz.zeroValue0
 t3:=Tryz.underlying3
 a3:=Tryz.isAgg3
 z3:=Tryz.sizeOf3
 v3:=Tryz.zeroValue3
 t4:=Tryz.underlying4
 a4:=Tryz.isAgg4
 z4:=Tryz.sizeOf4
 v4:=Tryz.zeroValue4
 t5:=Tryz.underlying5
 a5:=Tryz.isAgg5
 z5:=Tryz.sizeOf5
 v5:=Tryz.zeroValue5
 t9:=Tryz.underlying9
 a9:=Tryz.isAgg9
 z9:=Tryz.sizeOf9
 v9:=Tryz.zeroValue9
 t28:=Tryz.underlying41
 a28:=Tryz.isAgg41
 z28:=Tryz.sizeOf41
 v28:=Tryz.zeroValue41
 t46:=Tryz.underlying141
 a46:=Tryz.isAgg141
 z46:=Tryz.sizeOf141
 v46:=Tryz.zeroValue141
 t51:=Tryz.underlying263
 a51:=Tryz.isAgg263
 z51:=Tryz.sizeOf263
 v51:=Tryz.zeroValue263
 t53:=Tryz.underlying67
 a53:=Tryz.isAgg67
 z53:=Tryz.sizeOf67
 v53:=Tryz.zeroValue67
 t131:=Tryz.underlying165
 a131:=Tryz.isAgg165
 z131:=Tryz.sizeOf165
 v131:=Tryz.zeroValue165
 t182:=Tryz.underlying256
 a182:=Tryz.isAgg256
 z182:=Tryz.sizeOf256
 v182:=Tryz.zeroValue256
 t183:=Tryz.underlying257
 a183:=Tryz.isAgg257
 z183:=Tryz.sizeOf257
 v183:=Tryz.zeroValue257
 t218:=Tryz.underlying290
 a218:=Tryz.isAgg290
 z218:=Tryz.sizeOf290
 v218:=Tryz.zeroValue290
 t222:=Tryz.underlying294
 a222:=Tryz.isAgg294
 z222:=Tryz.sizeOf294
 v222:=Tryz.zeroValue294
 t228:=Tryz.underlying308
 a228:=Tryz.isAgg308
 z228:=Tryz.sizeOf308
 v228:=Tryz.zeroValue308
 t229:=Tryz.underlying309
 a229:=Tryz.isAgg309
 z229:=Tryz.sizeOf309
 v229:=Tryz.zeroValue309 }
open Go.Sort Go.RowKit in
theorem Tryz.slices_Sort_int(blk off cap:Nat)(zs:List Int)(w:World)(hH:Holds (Value.int .i64) w blk off zs.toArray)(hblk:blk<w.heap.size)(hsz:zs.length<4611686018427387904):
 Calls Tryz.prog 202 #[.slice (some ⟨blk,off,none⟩) zs.length cap] w λe w'=>
  e=.returned (.tuple #[])/\∃n os,w'=grow (putRow (Value.int .i64) (Sort.ahead w n) blk off (zs.mergeSort λx y=>decide (x<=y)).toArray) os:=Any.slices_Sort_int Tryz.QP blk off cap zs w hH hblk hsz
def Tryz.Gy:Go.Shelf.Ren:=⟨fun | 15=>204|n=>n,fun | 22=>41 | 3=>3 | 4=>4|n=>n,fun|n=>n⟩
theorem Tryz.Ct:Go.Proofs.Lays2.n15 Tryz.prog Tryz.Gy:={
 mixed:=by kernel_rfl
 f15:=Tryz.func204.trans (congrArg some (by kernel_rfl))
 t3:=Tryz.underlying3
 a3:=Tryz.isAgg3
 z3:=Tryz.sizeOf3
 v3:=Tryz.zeroValue3
 t4:=Tryz.underlying4
 a4:=Tryz.isAgg4
 z4:=Tryz.sizeOf4
 v4:=Tryz.zeroValue4
 t22:=Tryz.underlying41
 a22:=Tryz.isAgg41
 z22:=Tryz.sizeOf41
 v22:=Tryz.zeroValue41
 i3:=by kernel_rfl }
open Go.RowKit Go.Lib in
theorem Tryz.slices_Clone_int(b off n c:Nat)(zs:List Int)(w:World)(hz:n<=zs.length)(hbig:n*8<=140737488355328)(hc:∀j,j<zs.length->w.cell? ⟨b,off+j,none⟩=some (.int .i64 (zs.getD j 0))):
 Calls Tryz.prog 204 #[.slice (some ⟨b,off,none⟩) n c] w λe w'=>∃v',e=.returned v'/\w'.ownsRow w.heap.size 3 1 v' n ((zs.take n).map (Value.int .i64))/\v'≠.slice none 0 0/\Below w.heap.size w w':=Any.slices_Clone_int Tryz.Ct b off n c zs w hz hbig hc
open Go.RowKit Go.Lib in
theorem Tryz.slices_Clone_int_nil(n c:Nat)(w:World):
 Calls Tryz.prog 204 #[.slice none n c] w λe w'=>e=.returned (.slice none 0 0)/\w'=w:=Any.slices_Clone_int_nil Tryz.Ct n c w
open Go.RowKit Go.Lib in
theorem Tryz.slices_Clone_int_zero(a:Addr)(c:Nat)(w:World):
 Calls Tryz.prog 204 #[.slice (some a) 0 c] w λe w'=>∃v',e=.returned v'/\w'.ownsRow w.heap.size 3 1 v' 0 []/\v'≠.slice none 0 0/\Below w.heap.size w w':=Any.slices_Clone_int_zero Tryz.Ct a c w
def Tryz.Gx:Go.Shelf.Ren:=⟨fun | 20=>205|n=>n,fun | 22=>41 | 3=>3 | 4=>4 | 0=>0|n=>n,fun|n=>n⟩
theorem Tryz.Ir:Go.Proofs.Lays2.n20 Tryz.prog Tryz.Gx:={
 mixed:=by kernel_rfl
 f20:=Tryz.func205.trans (congrArg some (by kernel_rfl))
 t0:=Tryz.underlying0
 a0:=Tryz.isAgg0
 z0:=Tryz.sizeOf0
 v0:=Tryz.zeroValue0
 t3:=Tryz.underlying3
 a3:=Tryz.isAgg3
 z3:=Tryz.sizeOf3
 v3:=Tryz.zeroValue3
 t4:=Tryz.underlying4
 a4:=Tryz.isAgg4
 z4:=Tryz.sizeOf4
 v4:=Tryz.zeroValue4
 t22:=Tryz.underlying41
 a22:=Tryz.isAgg41
 z22:=Tryz.sizeOf41
 v22:=Tryz.zeroValue41
 i3:=by kernel_rfl }
open Go.RowKit Go.Lib Go.Sort in
theorem Tryz.slices_Compact_int(blk off cap:Nat)(zs:List Int)(w:World)(hH:Holds (Value.int .i64) w blk off zs.toArray)(hsz:zs.length<=9223372036854775807)(hcap:zs.length<=cap):
 Calls Tryz.prog 205 #[.slice (some ⟨blk,off,none⟩) zs.length cap] w λe w'=>e=.returned (.slice (some ⟨blk,off,none⟩) (Lib.compact zs).length cap)/\∃q,w'=putRow (Value.int .i64) (Sort.ahead w q) blk off (Lib.compact zs++List.replicate (zs.length-(Lib.compact zs).length) 0).toArray:=Any.slices_Compact_int Tryz.Ir blk off cap zs w hH hsz hcap
open Go.RowKit Go.Lib Go.Sort in
theorem Tryz.slices_Compact_int_empty(a:Option Addr)(cap:Nat)(w:World):
 Calls Tryz.prog 205 #[.slice a 0 cap] w λe w'=>e=.returned (.slice a 0 cap)/\w'=w:=Any.slices_Compact_int_empty Tryz.Ir a cap w
open Go.RowKit Go.Sort in
theorem Tryz.slices_Sort_int_none(p:Option Addr)(cap:Nat)(w:World):
 Calls Tryz.prog 202 #[.slice p 0 cap] w λe w'=>e=.returned (.tuple #[])/\w'=w:=Any.slices_Sort_int_none Tryz.QP p cap w
def Tryz.Af:Go.Shelf.Ren:=⟨fun | 6=>170 | 15=>201 | 14=>203 | 28=>242 | 29=>243 | 20=>245 | 21=>246 | 22=>247 | 23=>248 | 24=>249 | 25=>250 | 26=>251 | 27=>252 | 46=>289 | 47=>276 | 48=>277 | 49=>290 | 50=>291 | 57=>305|n=>n,fun | 22=>198 | 24=>201 | 25=>203 | 3=>3 | 39=>141 | 0=>0 | 53=>263 | 55=>67 | 4=>4 | 46=>257 | 45=>256 | 50=>165 | 5=>5 | 9=>9 | 66=>290 | 70=>294 | 76=>308 | 77=>309|n=>n,fun|n=>n⟩
theorem Tryz.E9:Go.Proofs.SlLaysF0.n6 Tryz.prog Tryz.Af:={
 mixed:=by kernel_rfl
 f6:=⟨Tryz.f170.name,by decide,Tryz.func170.trans (congrArg some (by kernel_rfl))⟩
 f14:=⟨Tryz.f203.name,by decide,Tryz.func203.trans (congrArg some (by kernel_rfl))⟩
 f15:=Tryz.func201.trans (congrArg some (by kernel_rfl))
 f20:=⟨Tryz.f245.name,by decide,Tryz.func245.trans (congrArg some (by kernel_rfl))⟩
 f21:=⟨Tryz.f246.name,by decide,Tryz.func246.trans (congrArg some (by kernel_rfl))⟩
 f22:=⟨Tryz.f247.name,by decide,Tryz.func247.trans (congrArg some (by kernel_rfl))⟩
 f23:=⟨Tryz.f248.name,by decide,Tryz.func248.trans (congrArg some (by kernel_rfl))⟩
 f24:=⟨Tryz.f249.name,by decide,Tryz.func249.trans (congrArg some (by kernel_rfl))⟩
 f25:=⟨Tryz.f250.name,by decide,Tryz.func250.trans (congrArg some (by kernel_rfl))⟩
 f26:=⟨Tryz.f251.name,by decide,Tryz.func251.trans (congrArg some (by kernel_rfl))⟩
 f27:=⟨Tryz.f252.name,by decide,Tryz.func252.trans (congrArg some (by kernel_rfl))⟩
 f28:=Tryz.func242.trans (congrArg some (by kernel_rfl))
 f29:=Tryz.func243.trans (congrArg some (by kernel_rfl))
 f46:=⟨Tryz.f289.name,by decide,Tryz.func289.trans (congrArg some (by kernel_rfl))⟩
 f47:=Tryz.func276.trans (congrArg some (by kernel_rfl))
 f48:=Tryz.func277.trans (congrArg some (by kernel_rfl))
 f49:=⟨Tryz.f290.name,by decide,Tryz.func290.trans (congrArg some (by kernel_rfl))⟩
 f50:=⟨Tryz.f291.name,by decide,Tryz.func291.trans (congrArg some (by kernel_rfl))⟩
 f57:=⟨Tryz.f305.name,by decide,Tryz.func305.trans (congrArg some (by kernel_rfl))⟩
 t0:=Tryz.underlying0
 a0:=Tryz.isAgg0
 z0:=Tryz.sizeOf0
 v0:=Tryz.zeroValue0
 t3:=Tryz.underlying3
 a3:=Tryz.isAgg3
 z3:=Tryz.sizeOf3
 v3:=Tryz.zeroValue3
 t4:=Tryz.underlying4
 a4:=Tryz.isAgg4
 z4:=Tryz.sizeOf4
 v4:=Tryz.zeroValue4
 t5:=Tryz.underlying5
 a5:=Tryz.isAgg5
 z5:=Tryz.sizeOf5
 v5:=Tryz.zeroValue5
 t9:=Tryz.underlying9
 a9:=Tryz.isAgg9
 z9:=Tryz.sizeOf9
 v9:=Tryz.zeroValue9
 t22:=Tryz.underlying198
 a22:=Tryz.isAgg198
 z22:=Tryz.sizeOf198
 v22:=Tryz.zeroValue198
 t25:=Tryz.underlying203
 a25:=Tryz.isAgg203
 z25:=Tryz.sizeOf203
 v25:=Tryz.zeroValue203
 t39:=Tryz.underlying141
 a39:=Tryz.isAgg141
 z39:=Tryz.sizeOf141
 v39:=Tryz.zeroValue141
 t45:=Tryz.underlying256
 a45:=Tryz.isAgg256
 z45:=Tryz.sizeOf256
 v45:=Tryz.zeroValue256
 t46:=Tryz.underlying257
 a46:=Tryz.isAgg257
 z46:=Tryz.sizeOf257
 v46:=Tryz.zeroValue257
 t50:=Tryz.underlying165
 a50:=Tryz.isAgg165
 z50:=Tryz.sizeOf165
 v50:=Tryz.zeroValue165
 t53:=Tryz.underlying263
 a53:=Tryz.isAgg263
 z53:=Tryz.sizeOf263
 v53:=Tryz.zeroValue263
 t55:=Tryz.underlying67
 a55:=Tryz.isAgg67
 z55:=Tryz.sizeOf67
 v55:=Tryz.zeroValue67
 t66:=Tryz.underlying290
 a66:=Tryz.isAgg290
 z66:=Tryz.sizeOf290
 v66:=Tryz.zeroValue290
 t70:=Tryz.underlying294
 a70:=Tryz.isAgg294
 z70:=Tryz.sizeOf294
 v70:=Tryz.zeroValue294
 t76:=Tryz.underlying308
 a76:=Tryz.isAgg308
 z76:=Tryz.sizeOf308
 v76:=Tryz.zeroValue308
 t77:=Tryz.underlying309
 a77:=Tryz.isAgg309
 z77:=Tryz.sizeOf309
 v77:=Tryz.zeroValue309 }
open Go.RowKit Go.Lib Go.Sort in
theorem Tryz.slices_SortFunc{α:Type}[Inhabited α](k:Nat)(aE:∀w,(isAgg 201).run Tryz.prog w=.ok true w)(zE:∀w,(Go.sizeOf 201).run Tryz.prog w=.ok k w)(enc:α->List Value)(hk:∀x,(enc x).length=k)(h1:∀x,∀v∈enc x,v.oneCell'=true)(cf:α->α->Int)(hO:SWO (ltOf cf))(g:Nat)(cb:Array Value)(blk off cap:Nat)(d:Array α)(w:World)(eg:∀args w,(callFunc g args).run Tryz.prog w=.ok (.enter g args) w)(hcmp:CmpLays Tryz.prog g cb enc k cf blk off d.size w)(hH:HoldsK enc k w blk off d)(hblk:blk<w.heap.size)(hsz:d.size<4611686018427387904):
 Calls Tryz.prog 170 #[.slice (some ⟨blk,off,none⟩) d.size cap,.func (.func g) #[] cb] w λe w'=>
  e=.returned (.tuple #[])/\∃d' n os,PermIn 0 d.size d d'/\SortedIn (ltOf cf) 0 d.size d'/\w'=sortWorldK enc k w blk off n d' os:=AnyQ.slices_SortFunc Tryz.E9 k aE zE enc hk h1 cf hO g cb blk off cap d w eg hcmp hH hblk hsz
def Tryz.Bv:Go.Shelf.Ren:=⟨fun | 6=>167 | 15=>201 | 14=>200 | 28=>242 | 29=>243 | 20=>234 | 21=>235 | 22=>236 | 23=>237 | 24=>238 | 25=>239 | 26=>240 | 27=>241 | 46=>275 | 47=>276 | 48=>277 | 49=>278 | 50=>279 | 57=>301|n=>n,fun | 22=>41 | 24=>3 | 25=>146 | 3=>3 | 39=>141 | 0=>0 | 53=>263 | 55=>67 | 4=>4 | 46=>257 | 45=>256 | 50=>165 | 5=>5 | 9=>9 | 66=>290 | 70=>294 | 76=>308 | 77=>309|n=>n,fun|n=>n⟩
theorem Tryz.Gw:Go.Proofs.SlLaysF.n6 Tryz.prog Tryz.Bv:={
 mixed:=by kernel_rfl
 f6:=⟨Tryz.f167.name,by decide,Tryz.func167.trans (congrArg some (by kernel_rfl))⟩
 f14:=⟨Tryz.f200.name,by decide,Tryz.func200.trans (congrArg some (by kernel_rfl))⟩
 f15:=Tryz.func201.trans (congrArg some (by kernel_rfl))
 f20:=⟨Tryz.f234.name,by decide,Tryz.func234.trans (congrArg some (by kernel_rfl))⟩
 f21:=⟨Tryz.f235.name,by decide,Tryz.func235.trans (congrArg some (by kernel_rfl))⟩
 f22:=⟨Tryz.f236.name,by decide,Tryz.func236.trans (congrArg some (by kernel_rfl))⟩
 f23:=⟨Tryz.f237.name,by decide,Tryz.func237.trans (congrArg some (by kernel_rfl))⟩
 f24:=⟨Tryz.f238.name,by decide,Tryz.func238.trans (congrArg some (by kernel_rfl))⟩
 f25:=⟨Tryz.f239.name,by decide,Tryz.func239.trans (congrArg some (by kernel_rfl))⟩
 f26:=⟨Tryz.f240.name,by decide,Tryz.func240.trans (congrArg some (by kernel_rfl))⟩
 f27:=⟨Tryz.f241.name,by decide,Tryz.func241.trans (congrArg some (by kernel_rfl))⟩
 f28:=Tryz.func242.trans (congrArg some (by kernel_rfl))
 f29:=Tryz.func243.trans (congrArg some (by kernel_rfl))
 f46:=⟨Tryz.f275.name,by decide,Tryz.func275.trans (congrArg some (by kernel_rfl))⟩
 f47:=Tryz.func276.trans (congrArg some (by kernel_rfl))
 f48:=Tryz.func277.trans (congrArg some (by kernel_rfl))
 f49:=⟨Tryz.f278.name,by decide,Tryz.func278.trans (congrArg some (by kernel_rfl))⟩
 f50:=⟨Tryz.f279.name,by decide,Tryz.func279.trans (congrArg some (by kernel_rfl))⟩
 f57:=⟨Tryz.f301.name,by decide,Tryz.func301.trans (congrArg some (by kernel_rfl))⟩
 t0:=Tryz.underlying0
 a0:=Tryz.isAgg0
 z0:=Tryz.sizeOf0
 v0:=Tryz.zeroValue0
 t3:=Tryz.underlying3
 a3:=Tryz.isAgg3
 z3:=Tryz.sizeOf3
 v3:=Tryz.zeroValue3
 t4:=Tryz.underlying4
 a4:=Tryz.isAgg4
 z4:=Tryz.sizeOf4
 v4:=Tryz.zeroValue4
 t5:=Tryz.underlying5
 a5:=Tryz.isAgg5
 z5:=Tryz.sizeOf5
 v5:=Tryz.zeroValue5
 t9:=Tryz.underlying9
 a9:=Tryz.isAgg9
 z9:=Tryz.sizeOf9
 v9:=Tryz.zeroValue9
 t22:=Tryz.underlying41
 a22:=Tryz.isAgg41
 z22:=Tryz.sizeOf41
 v22:=Tryz.zeroValue41
 a24:=Tryz.isAgg3
 z24:=Tryz.sizeOf3
 t25:=Tryz.underlying146
 a25:=Tryz.isAgg146
 z25:=Tryz.sizeOf146
 v25:=Tryz.zeroValue146
 t39:=Tryz.underlying141
 a39:=Tryz.isAgg141
 z39:=Tryz.sizeOf141
 v39:=Tryz.zeroValue141
 t45:=Tryz.underlying256
 a45:=Tryz.isAgg256
 z45:=Tryz.sizeOf256
 v45:=Tryz.zeroValue256
 t46:=Tryz.underlying257
 a46:=Tryz.isAgg257
 z46:=Tryz.sizeOf257
 v46:=Tryz.zeroValue257
 t50:=Tryz.underlying165
 a50:=Tryz.isAgg165
 z50:=Tryz.sizeOf165
 v50:=Tryz.zeroValue165
 t53:=Tryz.underlying263
 a53:=Tryz.isAgg263
 z53:=Tryz.sizeOf263
 v53:=Tryz.zeroValue263
 t55:=Tryz.underlying67
 a55:=Tryz.isAgg67
 z55:=Tryz.sizeOf67
 v55:=Tryz.zeroValue67
 t66:=Tryz.underlying290
 a66:=Tryz.isAgg290
 z66:=Tryz.sizeOf290
 v66:=Tryz.zeroValue290
 t70:=Tryz.underlying294
 a70:=Tryz.isAgg294
 z70:=Tryz.sizeOf294
 v70:=Tryz.zeroValue294
 t76:=Tryz.underlying308
 a76:=Tryz.isAgg308
 z76:=Tryz.sizeOf308
 v76:=Tryz.zeroValue308
 t77:=Tryz.underlying309
 a77:=Tryz.isAgg309
 z77:=Tryz.sizeOf309
 v77:=Tryz.zeroValue309 }
open Go.RowKit Go.Lib Go.Sort in
theorem Tryz.xQ{α:Type}[Inhabited α](enc:α->Value)(h1:OneCell enc)(cf:α->α->Int)(hO:SWO (ltOf cf))(g:Nat)(cb:Array Value)(blk off cap:Nat)(d:Array α)(w:World)(eg:∀args w,(callFunc g args).run Tryz.prog w=.ok (.enter g args) w)(hcmp:CmpLays1 Tryz.prog g cb enc cf blk off d.size w)(hH:Holds enc w blk off d)(hblk:blk<w.heap.size)(hsz:d.size<4611686018427387904):
 Calls Tryz.prog 167 #[.slice (some ⟨blk,off,none⟩) d.size cap,.func (.func g) #[] cb] w λe w'=>
  e=.returned (.tuple #[])/\∃d' n os,PermIn 0 d.size d d'/\SortedIn (ltOf cf) 0 d.size d'/\w'=sortWorld enc w blk off n d' os:=Any.slices_SortFunc Tryz.Gw enc h1 cf hO g cb blk off cap d w eg hcmp hH hblk hsz
end Go.Proofs
namespace Go.Proofs.YtplgooajigigkaaGreatDoor
open Go.RowKit
variable {e k base g n cap:Nat} {w:World} {l z:List Int}
theorem zH(w:World)(g:Nat)(f:Array Value->Array Value){cur:Array Value}{e:TypeId}{fr:Nat × Nat}(h:w.heap[g]?=some (.cells cur e fr)):(Go.Sort.mapBlock w g f).heap[g]?=some (.cells (f cur) e fr):=by
 simp[Go.Sort.mapBlock,Array.getElem?_modify,h,Go.Sort.onCells]
theorem xY(w:World)(g k:Nat)(f:Array Value->Array Value)(h:k≠g):(Go.Sort.mapBlock w g f).heap[k]?=w.heap[k]?:=by
 simp[Go.Sort.mapBlock,Array.getElem?_modify,Ne.symm h]
theorem zf(w:World)(os:Array Obj)(h:k<w.heap.size):(Go.Sort.grow w os).heap[k]?=w.heap[k]?:=by
 simp[Go.Sort.grow,Array.getElem?_append_left h]
theorem Ji{l':List Int}(h:w.ownsRow base e 1 (.slice (some ⟨g,0,none⟩) n cap) n (l.map (Value.int .i64)))(hl:l'.length=l.length)(m:Nat)(os:Array Obj):
 (Go.Sort.grow (Go.Sort.putRow (Value.int .i64) (Go.Sort.ahead w m) g 0 l'.toArray) os).ownsRow base e 1 (.slice (some ⟨g,0,none⟩) n cap) n (l'.map (Value.int .i64))/\fJ (λb=>b=g) w (Go.Sort.grow (Go.Sort.putRow (Value.int .i64) (Go.Sort.ahead w m) g 0 l'.toArray) os):=by
 obtain⟨hlen,h⟩:=h;rw[bK]at hlen;have hgl:g<w.heap.size:=by
  rcases h with⟨h,_⟩|⟨g',cap',cur,h1,h2,h3,_⟩
  .simp at h
  .simp only[il,bU,Addr.mk.injEq,and_true,true_and]at h1
   obtain⟨rfl,rfl⟩:=h1;exact bW h3
 have hsz:(Go.Sort.putRow (Value.int .i64) (Go.Sort.ahead w m) g 0 l'.toArray).heap.size=w.heap.size:=by rw[Go.Sort.size_putRow];rfl
 refine⟨⟨by rw[bK];omega,?_⟩,rfl,rfl,rfl,by simp[Go.Sort.grow,hsz],λk hk hn=>?_⟩
 .rcases h with⟨h,_⟩|⟨g',cap',cur,h1,h2,h3,h4,h5,h6,h7⟩
  .simp at h
  .simp only[il,bU,Addr.mk.injEq,and_true,true_and]at h1
   obtain⟨rfl,rfl⟩:=h1;refine .inr ⟨g,cap,Go.Sort.putCells (Value.int .i64) 0 l'.toArray cur,rfl,h2,?_,h4,h5,by simp[Go.Sort.putCells,h6],?_⟩
   .rw[zf _ _ (by rw[hsz];exact hgl)]
    exact zH _ _ _ h3
   .apply qA
    intro i;rw[pF];by_cases c:i<n*1
    .rw[if_pos c,kZ]
     have hc:i<cur.size:=(by rw[h6];have:=jC 1 h4;omega);have hi:i<l'.length:=(by omega);rw[ek,af hi];simp only[Go.Sort.putCells,Array.getElem?_mapIdx,p9 hc,Option.map_some];rw[if_pos (by simp;omega)];simp[hi]
    .rw[if_neg c,kY (by rw[bK];omega)]
 .rw[zf _ _ (by rw[hsz];exact hk)]
  exact xY (Go.Sort.ahead w m) g k _ hn
theorem Cn(h:w.ownsRow base e 1 (.slice (some ⟨g,0,none⟩) n cap) n (l.map (Value.int .i64))):Go.Sort.Holds (Value.int .i64) w g 0 l.toArray:=by
 intro j hj;have hl:=h.1;rw[bK]at hl;have hj':j<l.length:=by simpa using hj
 rw[fI];refine⟨?_,h.frozenAt j⟩;rw[Fh h (by omega),rC hj'];simp[hj']
theorem EK(h:w.ownsRow base e 1 (.slice (some ⟨g,0,none⟩) n cap) n (l.map (Value.int .i64)))(hk:k<=n):w.ownsRow base e 1 (.slice (some ⟨g,0,none⟩) k cap) k ((l.take k).map (Value.int .i64)):=by
 obtain⟨hlen,h⟩:=h;rw[bK]at hlen;refine⟨by rw[bK,gV];omega,?_⟩;rcases h with⟨h,_⟩|⟨g',cap',cur,h1,h2,h3,h4,h5,h6,h7⟩
 .simp at h
 .simp only[il,bU,Addr.mk.injEq,and_true,true_and]at h1
  obtain⟨rfl,rfl⟩:=h1;refine .inr ⟨g,cap,cur,rfl,h2,h3,by omega,h5,h6,?_⟩;rw[List.map_take,<-h7,List.take_take];congr 1;omega
def CJ(l:List Int):List Int:=Lib.compact (l.mergeSort λx y=>decide (x<=y))
def Y8(l:List Int)(w:World)(e:Ending)(w':World):Prop:=∃v',e=.returned v'/\w'.ownsRow w.heap.size 3 1 v' (CJ l).length ((CJ l).map (Value.int .i64))/\Ext w w'
set_option maxRecDepth 100000 in
theorem JN(v:Value)(l:List Int)(w:World)(h:Ints w v l)(hl:l.length<=1000000000):Calls Tryz.prog 172 #[v] w (Y8 l w):=by
 obtain⟨a,cap,rfl,hlc,hcap,hc⟩:=id h;rcases sV l.length with hz|hz
 .have hln:l=[]:=eP hz
  subst hln;have hd:CJ []=[]:=by simp[CJ,Lib.compact,Lib.compactUpTo]
  cases a with
  |none=>
   go_enter Tryz.func172,Tryz.ntmps172
   go_wp2_with (first
    |(go_at_call 204;refine(Tryz.slices_Clone_int_nil _ _ _).mono ?_;rintro e w1 ⟨rfl,rfl⟩)
    |(go_at_call 202;refine(Tryz.slices_Sort_int_none _ _ _).mono ?_;rintro e w1 ⟨rfl,hw1⟩)
    |(go_at_call 205;refine(Tryz.slices_Compact_int_empty _ _ _).mono ?_;rintro e w1 ⟨rfl,rfl⟩))
   go_ret
   exact⟨_,rfl,by rw[hd];exact⟨by simp,.inl ⟨rfl,rfl⟩⟩,gz _ _⟩
  |some ad=>
   go_enter Tryz.func172,Tryz.ntmps172
   go_wp2_with (first
    |(go_at_call 204;refine(Tryz.slices_Clone_int_zero _ _ _).mono ?_;rintro e w1 ⟨v1,rfl,ho1,-,hx1⟩;obtain⟨a1,c1,rfl,-⟩:=bT ho1)
    |(go_at_call 202;refine(Tryz.slices_Sort_int_none _ _ _).mono ?_;rintro e w2 ⟨rfl,hw2⟩;subst hw2)
    |(go_at_call 205;refine(Tryz.slices_Compact_int_empty _ _ _).mono ?_;rintro e w3 ⟨rfl,hw3⟩;subst hw3))
   go_ret
   exact⟨_,rfl,by rw[hd];exact ho1,hx1⟩
 .obtain⟨b,off,rfl,hcell⟩:=hc hz
  have hg:∀j,j<l.length->w.cell? ⟨b,off+j,none⟩=some (.int .i64 (l.getD j 0)):=λj hj=>by rw[hcell j hj];simp[jl]
  go_enter Tryz.func172,Tryz.ntmps172
  go_upto_region 2 with(go_at_call 204;refine(Tryz.slices_Clone_int b off l.length _ l _ (aJ _) (by omega) hg).mono ?_;rintro e w1 ⟨v1,rfl,ho1,-,hx1⟩)
  rw[dJ (aJ _)]at ho1;obtain⟨g,c1,rfl,hc1,atD,-⟩:=iy ho1 hz;have hgl:=ho1.lt g rfl;have hms:(l.mergeSort λx y=>decide (x<=y)).length=l.length:=List.length_mergeSort _;go_upto_region 3 with(go_at_call 202;refine(Tryz.slices_Sort_int g 0 _ l _ (Cn ho1) hgl.2 (by omega)).mono ?_;rintro e w2 ⟨rfl,m2,os2,hw2⟩)
  obtain⟨ho2,hk2⟩:=Ji ho1 hms m2 os2;rw[<-hw2]at ho2 hk2 ⊢;clear hw2;generalize agL:(l.mergeSort λx y=>decide (x<=y))=ms at *;have hcl:(Lib.compact ms).length<=l.length:=by
   rw[<-hms];unfold Lib.compact Lib.compactUpTo;rw[bK];exact bZ (pO _ _) (by simp)
  have hC:=Tryz.slices_Compact_int g 0 c1 ms w2 (Cn ho2) (by rw[hms];omega) (by rw[hms];exact hc1);rw[hms]at hC;have HMS:=aW hms;have HD:=aW agL;clear hms agL;go_wp2_with (go_at_call 205;refine hC.mono ?_;rintro e w3 ⟨rfl,q3,hw3⟩)
  go_ret
  rw[<-hw3];have hl3:(Lib.compact ms++List.replicate (l.length-(Lib.compact ms).length) 0).length=l.length:=by
   rw[bu,List.length_replicate];omega
  obtain⟨ho3,hk3⟩:=Ji ho2 (hl3.trans HMS.out.symm) q3 #[];have e3:Go.Sort.grow (Go.Sort.putRow (Value.int .i64) (Go.Sort.ahead w2 q3) g 0 (Lib.compact ms++List.replicate (l.length-(Lib.compact ms).length) 0).toArray) #[]=w3:=by rw[Go.Sort.grow_empty,hw3]
  rw[e3]at ho3 hk3;have hdz:CJ l=Lib.compact ms:=by unfold CJ;rw[HD.out]
  refine⟨_,rfl,?_,⟨hk3.os.trans (hk2.os.trans hx1.os),hk3.tape.trans (hk2.tape.trans hx1.tape),hk3.output.trans (hk2.output.trans hx1.output),bZ hx1.size (bZ hk2.size hk3.size),λk hk=>?_⟩⟩
  .have:=EK ho3 (k:=(Lib.compact ms).length) hcl
   rw[List.take_left]at this;rw[hdz];exact this
  .have z1:=hx1.size
   rw[hk3.block k (by have:=hk2.size;omega) (by omega),hk2.block k (by omega) (by omega)];exact hx1.block k hk
theorem MF(h:z.Pairwise (·<=·)):(Lib.compact z).Pairwise (· < ·):=by
 unfold Lib.compact Lib.compactUpTo;rw[gU];have hr:((List.range z.length).filter (Lib.keeps z.toArray)).Pairwise (· < ·):=sZ.filter _;refine fQ (λ{i j} hi hj hij=>?_) hr;simp only[lh,dz,Lib.keeps,decide_eq_true_eq]at hi hj;rcases hj.2 with h0|h0
 .omega
 .have e1:z.toArray[j]! = z[j]:=by simp[hj.1]
  have e2:z.toArray[j-1]! = z[j-1]'(by omega):=by simp[show j-1<z.length by omega]
  have e3:z.toArray[i]! = z[i]:=by simp[hi.1]
  rw[e1,e2]at h0;rw[e1,e3];have a:z[i]<=z[j-1]'(by omega):=by
   by_cases c:i=j-1
   .subst c;exact Int.le_refl _
   .exact dx.1 h i (j-1) hi.1 (by omega) (by omega)
  have b:=dx.1 h (j-1) j (by omega) hj.1 (by omega);omega
theorem ME{x:Int}:x∈Lib.compact z↔x∈z:=by
 have key:∀i (h:i<z.length),z[i]∈Lib.compact z:=by
  intro i
  induction i with
  |zero=>
   intro h;refine az.2 ⟨0,lh.2 ⟨dz.2 h,by simp[Lib.keeps]⟩,by simp[h]⟩
  |succ i ih=>
   intro h;by_cases c:z[i+1]=z[i]
   .rw[c];exact ih (by omega)
   .refine az.2 ⟨i+1,lh.2 ⟨dz.2 h,?_⟩,by simp[h]⟩
    simp only[Lib.keeps,decide_eq_true_eq,sW];right;have e1:z.toArray[i+1]! = z[i+1]:=(by simp[h]);have e2:z.toArray[i]! = z[i]:=(by simp[show i<z.length by omega]);rw[e1,e2];exact c
 constructor
 .intro h
  obtain⟨i,hi,rfl⟩:=az.1 h;simp only[lh,dz]at hi;have:z.toArray[i]! = z[i]:=by simp[hi.1]
  rw[this];exact ai _
 .intro h
  obtain⟨i,hi,rfl⟩:=aQ.1 h;exact key i hi
theorem Ya(l:List Nat):CJ (dB l)=dB (bO l):=by
 have hs:((dB l).mergeSort λx y=>decide (x<=y)).Pairwise (·<=·):=by
  have:=List.pairwise_mergeSort (le:=λx y:Int=>decide (x<=y)) (λa b c h1 h2=>by simp at *;omega) (λa b=>by simp;omega) (dB l);exact this.imp (λh=>by simpa using h)
 have ha:=MF hs;have hm:∀x,x∈CJ (dB l)↔x∈dB l:=λx=>by unfold CJ;rw[ME,List.mem_mergeSort]
 have hnn:∀x,x∈CJ (dB l)->∃n:Nat,x=(n:Int):=λx hx=>by obtain⟨n,_,e⟩:=o9 ((hm x).1 hx);exact⟨n,e⟩
 have e1:CJ (dB l)=dB ((CJ (dB l)).map Int.toNat):=by
  unfold dB;rw[jg]
  conv=>lhs;rw[<-Au (CJ _)]
  refine dC λx hx=>?_
  obtain⟨n,rfl⟩:=hnn x hx;rfl
 rw[e1];congr 1;refine bE.xx ?_ (kC l) (λx=>?_)
 .unfold bE.Asc
  rw[gU];refine fQ (λ{a b} ha hb h=>?_) ha;obtain⟨n,rfl⟩:=hnn a ha;obtain⟨m,rfl⟩:=hnn b hb;simp;omega
 .rw[cz]
  constructor
  .intro h
   obtain⟨y,hy,rfl⟩:=az.1 h;obtain⟨n,hn,rfl⟩:=o9 ((hm y).1 hy)
   simpa using hn
  .intro h
   exact az.2 ⟨(x:Int),(hm _).2 (wQ.2 h),by simp⟩
end Go.Proofs.YtplgooajigigkaaGreatDoor
namespace Go.Proofs.YtplgooajigigkaaGreatDoor
open Go.RowKit
open bE (dh Nd vl Same Ge)
variable {w wr wa w2:World} {B q line:List Nat} {n pp h mb i:Nat} {ys:List Value} {s:jF} {qv kv:Value}
theorem Jj{B e:Nat}{v:Value}{l:List Nat}{m:Nat}(h:w.ownsRow B e 1 v n ys)(hn:n=m)(hy:ys=(dB l).map (Value.int .i64)):w.ownsRow B e 1 v m ((dB l).map (Value.int .i64)):=by subst hn;rw[<-hy];exact h
theorem lS(a b:List Nat):dB (a++b)=dB a++dB b:=by simp[dB]
structure iP(pp h:Nat)(s:jF)(w wr:World)(mb:Nat)(qv kv:Value)(q B line:List Nat):Prop where
 q:wr.ownsRow w.heap.size 3 1 qv q.length ((dB q).map (Value.int .i64))
 k:wr.ownsRow w.heap.size 3 1 kv B.length ((dB B).map (Value.int .i64))
 seen:∃f,jb Tryz.prog 3 wr mb line.length f/\∀x:Nat,f (.int .i64 (x:Int))=if x∈line then some (.bool true)else none
 mb0:w.heap.size<=mb
 a1:qv.ownBlock≠some mb
 a2:kv.ownBlock≠some mb
 a3:∀b,qv.ownBlock=some b->kv.ownBlock≠some b
 xK:Nn pp h s wr (λb=>b=mb\/qv.ownBlock=some b\/kv.ownBlock=some b)
theorem iP.keep{pp h:Nat}{s s':jF}{w wr w2:World}{mb:Nat}{qv kv:Value}{q B line:List Nat}{G:Nat->Prop}(m:iP pp h s w wr mb qv kv q B line)(hk:fJ G wr w2)(hG:∀b,b=mb\/qv.ownBlock=some b\/kv.ownBlock=some b->¬G b)
 (hc:Nn pp h s' w2 (λb=>b=mb\/qv.ownBlock=some b\/kv.ownBlock=some b)):iP pp h s' w w2 mb qv kv q B line:=by
 obtain⟨f,f1,f2⟩:=m.seen;exact⟨bS m.q hk (λb hb=>hG b (.inr (.inl hb))),bS m.k hk (λb hb=>hG b (.inr (.inr hb))),⟨f,f1.keep (hk.block _ f1.lt (hG mb (.inl rfl))),f2⟩,m.mb0,m.a1,m.a2,m.a3,hc⟩
theorem iP.go{pp h:Nat}{s s':jF}{w wr w2:World}{mb:Nat}{qv kv:Value}{q B line:List Nat}(m:iP pp h s w wr mb qv kv q B line)(g:jr pp h s wr s' w2):iP pp h s' w w2 mb qv kv q B line:=
 m.keep g.keep (λb hb=>(m.xK b hb).2.1) (m.xK.go g)
theorem Nn.ext{w':World}{T:Nat->Prop}(c:Nn pp h s w T)(hx:Ext w w'):Nn pp h s w' T:=λb hb=>⟨bg (c b hb).1 hx.size,(c b hb).2⟩
theorem iP.ext{pp h:Nat}{s:jF}{w wr w2:World}{mb:Nat}{qv kv:Value}{q B line:List Nat}(m:iP pp h s w wr mb qv kv q B line)(hx:Ext wr w2):iP pp h s w w2 mb qv kv q B line:=
 m.keep (jR (F:=λ_=>False) hx) (λ_ _=>id) (m.xK.ext hx)
theorem iP.push{qv':Value}{news:List Nat}(m:iP pp h s w wr mb qv kv q B line)(hP:dA wr pp h s)(hx:Ext wr wa)(hg:wa.grownBy w2 qv.ownBlock)
 (ho:w2.ownsRow w.heap.size 3 1 qv' n ys) (hn:n=(q++news).length) (hy:ys=(dB (q++news)).map (Value.int .i64)) (hl:pX wa qv qv'):iP pp h s w w2 mb qv' kv (q++news) B line:=by
 have hz:=hx.size;have hz2:=hg.size;have hL:∀b,qv'.ownBlock=some b->qv.ownBlock=some b\/wr.heap.size<=b:=λb hb=>by
  rcases hl with e|⟨g,e,k⟩
  .exact .inl (e ▸ hb)
  .rw[e]at hb;injection hb with hb;exact .inr (by omega)
 have m1:=m.ext hx;obtain⟨f,f1,f2⟩:=m1.seen;have hkg:=fP hg;have hcm:=m.xK;refine⟨Jj ho hn hy,bS m1.k hkg (λb hb hq=>m.a3 b hq hb),⟨f,f1.keep (hkg.block _ f1.lt (λe=>m.a1 e)),f2⟩,m.mb0,λe=>?_,m.a2,λb hb hc=>?_,λb hb=>?_⟩
 .rcases hL mb e with h1|h1
  .exact m.a1 h1
  .have:=(hcm mb (.inl rfl)).1;omega
 .rcases hL b hb with h1|h1
  .exact m.a3 b h1 hc
  .have:=(hcm b (.inr (.inr hc))).1;omega
 .have hlt:=ho.lt
  rcases hb with rfl|hb|hb
  .have:=hcm _ (.inl rfl);exact⟨by omega,this.2⟩
  .refine⟨(hlt b hb).2,?_⟩
   rcases hL b hb with h1|h1
   .exact(hcm b (.inr (.inl h1))).2
   .exact hP.new h1
  .have:=hcm b (.inr (.inr hb));exact⟨by omega,this.2⟩
theorem iP.add{kv':Value}(m:iP pp h s w wr mb qv kv q B line)(hP:dA wr pp h s)(hx:Ext wr wa)(hg:wa.grownBy w2 kv.ownBlock)
 (ho:w2.ownsRow w.heap.size 3 1 kv' n ys) (hn:n=(B++[i]).length) (hy:ys=(dB (B++[i])).map (Value.int .i64)) (hl:pX wa kv kv'):iP pp h s w w2 mb qv kv' q (B++[i]) line:=by
 have hz:=hx.size;have hz2:=hg.size;have hL:∀b,kv'.ownBlock=some b->kv.ownBlock=some b\/wr.heap.size<=b:=λb hb=>by
  rcases hl with e|⟨g,e,k⟩
  .exact .inl (e ▸ hb)
  .rw[e]at hb;injection hb with hb;exact .inr (by omega)
 have m1:=m.ext hx;obtain⟨f,f1,f2⟩:=m1.seen;have hkg:=fP hg;have hcm:=m.xK;refine⟨bS m1.q hkg (λb hb hq=>m.a3 b hb hq),Jj ho hn hy,⟨f,f1.keep (hkg.block _ f1.lt (λe=>m.a2 e)),f2⟩,m.mb0,m.a1,λe=>?_,λb hb hc=>?_,λb hb=>?_⟩
 .rcases hL mb e with h1|h1
  .exact m.a2 h1
  .have:=(hcm mb (.inl rfl)).1;omega
 .rcases hL b hc with h1|h1
  .exact m.a3 b hb h1
  .have:=(hcm b (.inr (.inl hb))).1;omega
 .have hlt:=ho.lt
  rcases hb with rfl|hb|hb
  .have:=hcm _ (.inl rfl);exact⟨by omega,this.2⟩
  .have:=hcm b (.inr (.inl hb));exact⟨by omega,this.2⟩
  .refine⟨(hlt b hb).2,?_⟩
   rcases hL b hb with h1|h1
   .exact(hcm b (.inr (.inr h1))).2
   .exact hP.new h1
theorem iP.mark{f:Value->Option Value}(m:iP pp h s w wr mb qv kv q B line)(hf:∀x:Nat,f (.int .i64 (x:Int))=if x∈line then some (.bool true)else none)
 (hM:jb Tryz.prog 3 w2 mb (line.length+1) (upd (λ_ _=>Classical.propDecidable _) f (.int .i64 (i:Int)) (.bool true))) (hg:wr.grownBy w2 (some mb)):iP pp h s w w2 mb qv kv q B (line++[i]):=by
 have hk:=jA hg;have hz:=hg.size;refine⟨bS m.q hk (λb hb e=>m.a1 (e ▸ hb)),bS m.k hk (λb hb e=>m.a2 (e ▸ hb)),⟨_,by rw[bu];exact hM,λx=>?_⟩,m.mb0,m.a1,m.a2,m.a3,λb hb=>⟨by have:=(m.xK b hb).1;omega,(m.xK b hb).2⟩⟩;by_cases e:x=i
 .subst e;rw[upd_same];simp
 .rw[upd_ne (by simp;omega),hf x];simp[e]
theorem iP.pop{g c:Nat}(m:iP pp h s w wr mb (.slice (some ⟨g,0,none⟩) (q++[i]).length c) kv (q++[i]) B line):iP pp h s w wr mb (.slice (some ⟨g,0,none⟩) q.length c) kv q B line:=by
 refine⟨?_,m.k,m.seen,m.mb0,m.a1,m.a2,m.a3,m.xK⟩;have:=EK (k:=q.length) m.q (by simp);rw[lS,List.take_append_of_le_length (by rw[bG];omega),dJ (by rw[bG];omega)]at this;exact this
theorem iP.look{pp h:Nat}{s:jF}{w wr:World}{mb:Nat}{qv kv:Value}{q B line:List Nat}(m:iP pp h s w wr mb qv kv q B line){x:Nat}(hx:x<1000000000)(W:World)(hW:W.heap[mb]?=wr.heap[mb]?):
 (Instr.lookup 196 (.map (some mb)) (.int .i64 (x:Int)) false).run Tryz.prog W=.ok (.bool (decide (x∈line))) W:=by
 obtain⟨f,f1,f2⟩:=m.seen;obtain⟨kl,hkl⟩:=uO x hx;have:=(f1.keep hW).look rH Tryz.underlying196 (abV W) hkl false;rw[this,f2];by_cases e:x∈line <;> simp[e]
def Grow(s:jF)(f:Nat)(s':jF):Prop:=(∀N,f<N->N<=s.D.length->s'.D.length+miss N s'.cn<=s.D.length+miss N s.cn)/\(∀x,x<s.D.length->s.cn x=none->(s'.cn x).isSome->bE.born (vl s.D x)<=bE.born (vl s.D f))/\∀x,s.D.length<=x->x<s'.D.length->(s'.cn x).isSome
def xG(s:jF)(f:Nat)(s':jF):Prop:=(∀N,f<N->N<=s.D.length->s'.D.length+miss N s'.cn<=s.D.length+miss N s.cn)/\(∀x,x<s.D.length->s.cn x=none->(s'.cn x).isSome->bE.born (vl s.D x)<bE.born (vl s.D f))/\∀x,s.D.length<=x->x<s'.D.length->(s'.cn x).isSome
theorem xG.refl(s:jF)(f:Nat):xG s f s:=⟨λ_ _ _=>aJ _,λx _ h k=>(by rw[h]at k;cases k),λx a b=>absurd b (by omega)⟩
def uH(D:dh)(cn:Nat->Option Nat)(left:Bool)(f:Nat):List Nat:=(opt D left f).map λx=>(cn x).getD 0
def oO(D:dh)(cn:Nat->Option Nat)(f:Nat)(left:Bool)(F:List Nat):Prop:=(∀x,x∈opt D left f->(cn x).isSome)/\∃line B,jd D f left (uH D cn left f) line B line.length/\yG D left B F
