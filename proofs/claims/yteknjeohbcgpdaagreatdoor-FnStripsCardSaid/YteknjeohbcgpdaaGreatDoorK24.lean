/-
  Contracts of the drawing of test inputs: strips.
-/
import Derived.Test.YteknjeohbcgpdaaGreatDoorK23
set_option maxRecDepth 100000
namespace Go.Proofs.YteknjeohbcgpdaaGreatDoor
open Tryz
open Go.RowKit
variable {w0 w:World} {pc k:Nat} {cv:Value} {us:List Nat}
def Vx:List Row:=[⟨0,[],29,[1]⟩,⟨1,[],30,[7]⟩,⟨2,[0,1],31,[28,29]⟩,⟨3,[],32,[8]⟩,⟨4,[2,3],33,[30,31]⟩,⟨5,[],34,[1]⟩,⟨6,[],35,[7]⟩,⟨7,[5,6],36,[33,34]⟩,⟨8,[4,7],37,[32,35]⟩,⟨9,[8,0,1,2,3,4,5,6,7,8],7,[36]⟩]
def Vw:List Row:=[⟨0,[],40,[1]⟩,⟨1,[],41,[7]⟩,⟨2,[0,1],42,[39,40]⟩,⟨3,[],43,[8]⟩,⟨4,[2,3],44,[41,42]⟩,⟨5,[],45,[1]⟩,⟨6,[],46,[7]⟩,⟨7,[6],47,[45]⟩,⟨8,[5,7],48,[44,46]⟩,⟨9,[4,8],49,[43,47]⟩,⟨10,[9,0,1,2,3,4,5,6,7,8,9],7,[48]⟩]
def Q8:List Row:=[⟨0,[],50,[1]⟩,⟨1,[],51,[7]⟩,⟨2,[0,1],52,[49,50]⟩,⟨3,[],53,[1]⟩,⟨4,[],54,[7]⟩,⟨5,[4],55,[53]⟩,⟨6,[3,5],56,[52,54]⟩,⟨7,[2,6],57,[51,55]⟩,⟨8,[7,0,1,2,3,4,5,6,7],7,[56]⟩]
set_option maxHeartbeats 1000000 in
theorem uz(h:Am w0 w pc cv us k)(hk:k<=900000)(t u:ByteArray)(hu:u.size=6)(ht:t.size<=200):
 Calls prog 108 #[.pointer (some ⟨pc,0,none⟩),.string t,.string u] w λe w'=>∃t':ByteArray,t'.size<=t.size+1/\e=.returned (.string t')/\mf w0 w w' pc cv us k 3:=by
 have H:=aH h;clear h;have hu1:(1:Int)<=((u.size:Nat):Int):=by omega
 cases hE:t.toList.isEmpty with
 |true=>
  go_enter Tryz.func108,Tryz.ntmps108
  go_wp2
  go_ret
  exact⟨_,by rw[ByteArray.size_extract];omega,rfl,mf.refl H.out ⟨rfl,rfl,rfl,ai _,λ_ _ _=>rfl⟩ rfl⟩
 |false=>
  have ht1:0<t.size:=by
   rcases kg t.size with e|e
   .have:t=⟨#[]⟩:=ByteArray.ext (Array.eq_empty_of_size_eq_zero (by simpa using e))
    subst this;exact absurd hE (by simp)
   .exact e
  go_enter Tryz.func108,Tryz.ntmps108
  go_upto_region 4 with(go_at_call 92;refine(mY H.out (by omega) t.size ht).mono ?_;rintro e w1 ⟨x,hx,rfl,hg⟩)
  have hx1:x<t.size:=by omega
  have hxi:((x:Nat):Int)<=((t.size:Nat):Int):=by omega
  obtain⟨⟨k1,hk1,h1⟩,e1⟩:=hg;have E1:=aH e1;clear e1 hx;go_upto_region 5 with(go_at_call 92;refine(mY h1 (by omega) 6 (by omega)).mono ?_;rintro e w2 ⟨y,hy,rfl,hg⟩;have hy1:((y:Nat):Int)<=((u.size:Nat):Int):=(by omega))
  obtain⟨s8,hs8⟩:∃s8:ByteArray,s8=(u.extract y 6).extract 0 1:=⟨_,rfl⟩;rw[<-hs8];have hz8:s8.size<=1:=by rw[hs8,ByteArray.size_extract];omega
  obtain⟨⟨k2,hk2,h2⟩,e2⟩:=hg;have E2:=aH (E1.out.trans e2 λ_ _ h=>h);have hxj:((x:Nat):Int)+1<=((t.size:Nat):Int):=by omega
  have hwx:wrap64 (((x:Nat):Int)+1)=((x:Nat):Int)+1:=by unfold wrap64;omega
  clear hs8 e2 hE hy hy1 E1 h1;have key:∀w3,mf w0 w2 w3 pc cv us k2 1->∀m,mf w0 w (w3.drewN m) pc cv us k 3:=λw3 hg m=>by
   obtain⟨⟨k3,hk3,h3⟩,e3⟩:=hg;exact mf.drew ⟨⟨k3,by omega,h3⟩,E2.out.trans e3 λ_ _ h=>h⟩ m
  have KEY:=aH key;clear key;go_upto_region 6 with(go_at_call 92;refine(mY h2 (by omega) 3 (by omega)).mono ?_;rintro e w3 ⟨z,hz,rfl,hg⟩)
  have HG:=aH hg;have hz3:z=0\/z=1\/z=2:=by omega
  clear hg hz;have hA:¬(9223372036854775807<min x t.size+s8.size):=by omega
  have hB:¬(9223372036854775807<min x t.size+s8.size+(t.size-x)):=by omega
  have hC:¬(9223372036854775807<min x t.size+(t.size-(x+1))):=by omega
  have hD:¬(9223372036854775807<min x t.size+s8.size+(t.size-(x+1))):=by omega
  have Sl:IntKind.i64.wrap (((x:Nat):Int)+1)=((x:Nat):Int)+1:=(Go.IntWalk.i64_left _).trans hwx;have htn:(((x:Nat):Int)+1).toNat=x+1:=by omega
  have h0x:(0:Int)<=((x:Nat):Int)+1:=by omega
  rcases hz3 with rfl|rfl|rfl
  .go_upto_region 7 with fail
   refine bW (λ_=>True) [] Vx (by kernel_rfl) ⟨by kernel_rfl,by kernel_rfl,by kernel_rfl⟩ trivial (λax ae=>?_);(refine bT 0 ax ae ?_;refine bT 1 ax ae ?_;refine bT 2 ax ae ?_;refine bT 3 ax ae ?_;refine bT 4 ax ae ?_;refine bT 5 ax ae ?_;refine bT 6 ax ae ?_;refine bT 7 ax ae ?_;refine bT 8 ax ae ?_;refine bT 9 ax ae ?_);refine ow ax [] [] ?_ (hm:=rfl);clear ax ae;go_wp2
   go_ret
   exact⟨_,by simp only[qL,ByteArray.size_extract];omega,rfl,KEY.out _ HG.out 1⟩
  .go_upto_region 9 with fail
   refine bW (λ_=>True) [] Vw (by kernel_rfl) ⟨by kernel_rfl,by kernel_rfl,by kernel_rfl⟩ trivial (λax ae=>?_);(refine bT 0 ax ae ?_;refine bT 1 ax ae ?_;refine bT 2 ax ae ?_;refine bT 3 ax ae ?_;refine bT 4 ax ae ?_;refine bT 5 ax ae ?_;refine bT 6 ax ae ?_;refine bT 7 ax ae ?_;refine bT 8 ax ae ?_;refine bT 9 ax ae ?_;refine bT 10 ax ae ?_);refine ow ax [] [] ?_ (hm:=rfl);clear ax ae;go_wp2
   go_ret
   exact⟨_,by simp only[qL,ByteArray.size_extract];omega,rfl,KEY.out _ HG.out 1⟩
  .go_upto_region 10 with fail
   refine bW (λ_=>True) [] Q8 (by kernel_rfl) ⟨by kernel_rfl,by kernel_rfl,by kernel_rfl⟩ trivial (λax ae=>?_);(refine bT 0 ax ae ?_;refine bT 1 ax ae ?_;refine bT 2 ax ae ?_;refine bT 3 ax ae ?_;refine bT 4 ax ae ?_;refine bT 5 ax ae ?_;refine bT 6 ax ae ?_;refine bT 7 ax ae ?_;refine bT 8 ax ae ?_);refine ow ax [] [] ?_ (hm:=rfl);clear ax ae;go_wp2
   go_ret
   exact⟨_,by simp only[qL,ByteArray.size_extract];omega,rfl,KEY.out _ HG.out 1⟩
theorem abe{w1:World}{b off cap x:Nat}{ss:List ByteArray}(hv:Strs w (.slice (some ⟨b,off,none⟩) ss.length cap) ss)(hne:∀g,Value.ownBlock (.slice (some ⟨b,off,none⟩) ss.length cap)=some g->g≠pc)(hl:0<ss.length)(hg:mf w0 w w1 pc cv us k 1)(hx:x=0\/x<ss.length):∃t,t∈ss/\((x:Nat):Int)<((ss.length:Nat):Int)/\w1.cell? ⟨b,off+x,none⟩=some (.string t):=by
 have hx':x<ss.length:=by omega
 have hv1:Strs w1 (.slice (some ⟨b,off,none⟩) ss.length cap) ss:=lS.keep hv (λc hc hb=>hg.2.block c (lS.blk hv hc hb) (hne c hb));obtain⟨b',off',eb,hcl⟩:=hv1.at hl;simp only[bJ,Addr.mk.injEq,and_true]at eb;obtain⟨rfl,rfl⟩:=eb;exact⟨_,ah hx',by omega,hcl x hx'⟩
set_option maxHeartbeats 1000000 in
theorem K8(h:Am w0 w pc cv us k)(hk:k<=900000)(a:Option Addr)(cap:Nat)(ss:List ByteArray)(hv:Strs w (.slice a ss.length cap) ss)(hl:0<ss.length/\ss.length<=200)(hne:∀b,(Value.slice a ss.length cap).ownBlock=some b->b≠pc):
 Calls prog 153 #[.pointer (some ⟨pc,0,none⟩),.slice a ss.length cap] w λe w'=>∃t,t∈ss/\e=.returned (.string t)/\mf w0 w w' pc cv us k 1:=by
 have H:=aH h;obtain⟨b,off,rfl,hcl⟩:=hv.at hl.1;have HV:=aH hv;have HN:=aH hne;have HL:=aH hl;clear hcl h hv hne hl;go_enter Tryz.func153,Tryz.ntmps153
 go_wp2_with (go_at_call 92;refine(mY H.out (by omega) ss.length HL.out.2).mono ?_;rintro e w1 ⟨x,hx,rfl,hg⟩;obtain⟨t,ht,hxi,hcx⟩:=abe HV.out HN.out HL.out.1 hg hx;have HG:=aH hg;have HT:=aH ht;clear hg hx ht)
 go_ret
 exact⟨t,HT.out,rfl,HG.out⟩
theorem Vq(w:World):Ints (w.alloc (.cells #[.int .i64 (-1),.int .i64 4] 3)) (.slice (some ⟨w.heap.size,0,none⟩) 2 2) [-1,4]:=by
 have hown:(w.alloc (.cells #[.int .i64 (-1),.int .i64 4] 3)).ownsRow 0 3 1 (.slice (some ⟨w.heap.size,0,none⟩) 2 2) 2 (([-1,4]:List Int).map (Value.int .i64)):=
  ⟨by simp,.inr ⟨w.heap.size,2,#[.int .i64 (-1),.int .i64 4],rfl,az _,heap_alloc_new w _,ai _,by decide,rfl,by simp⟩⟩
 exact Ints.eO hown (by decide)
theorem adf{z:Int}(hz:z∈[(4:Int),5,6,8]):∃m:Nat,z=((m:Nat):Int)/\m<=8:=by
 rcases dD.1 hz with rfl|hz
 .exact⟨4,rfl,by decide⟩
 rcases dD.1 hz with rfl|hz
 .exact⟨5,rfl,by decide⟩
 rcases dD.1 hz with rfl|hz
 .exact⟨6,rfl,by decide⟩
 rcases dD.1 hz with rfl|hz
 .exact⟨8,rfl,by decide⟩
 cases hz
theorem BZ(w:World)(ss:List ByteArray)(hl:ss.length<=100):Strs (w.alloc (.cells (ss.map Value.string).toArray 9)) (.slice (some ⟨w.heap.size,0,none⟩) ss.length ss.length) ss:=by
 refine⟨_,ss.length,by rw[aJ],by simp,by simp;omega,λh0=>⟨w.heap.size,0,rfl,λi hi=>?_⟩⟩;rw[gK,cell_of_row _ w.heap.size i _ _ (0,0) (heap_alloc_new w _)];simp at hi ⊢
set_option maxHeartbeats 1000000 in
theorem drawStrip_1(h:Am w0 w pc cv us k)(hk:k<=1000)(most:Nat)(hm:most<=8):
 Calls prog 93 #[.pointer (some ⟨pc,0,none⟩),.int .i64 1,.int .i64 ((most:Nat):Int)] w λe w'=>∃s:ByteArray,s.size<=9/\e=.returned (.string s)/\mf w0 w w' pc cv us k 20:=by
 obtain⟨sd,hbk⟩:=h.blk;have hpc:=bG hbk;have xZ:fe (λ_=>False) w (w.alloc (.cells #[.string ⟨#[76]⟩,.string ⟨#[82]⟩,.string ⟨#[46]⟩,.string ⟨#[76]⟩,.string ⟨#[82]⟩] 9)):=⟨rfl,rfl,rfl,by simp,λb hb _=>Below.heap_alloc _ _ _ hb⟩;have hst:=BZ w [⟨#[76]⟩,⟨#[82]⟩,⟨#[46]⟩,⟨#[76]⟩,⟨#[82]⟩] (by decide);have hwm:wrap64 (((most:Nat):Int)+1)=(((most+1:Nat):Nat):Int):=by rw[dS (by omega)];omega
 have HC:=aH (h.keep xZ (λb e=>e.elim));have Yi:Hid (fe (λb=>b=pc) w (w.alloc (.cells #[.string ⟨#[76]⟩,.string ⟨#[82]⟩,.string ⟨#[46]⟩,.string ⟨#[76]⟩,.string ⟨#[82]⟩] 9))):=aH ⟨xZ.os,xZ.tape,xZ.output,xZ.size,λb hb _=>xZ.block b hb (λe=>e)⟩;have GV:Hid (∀b,(Value.slice (some ⟨w.heap.size,0,none⟩) 5 5).ownBlock=some b->b≠pc):=aH λb hb e=>by
  have hb':w.heap.size=b:=by simpa [Value.ownBlock]using hb
  omega
 obtain⟨signs,hsg⟩:∃signs:List ByteArray,[⟨#[76]⟩,⟨#[82]⟩,⟨#[46]⟩,⟨#[76]⟩,⟨#[82]⟩]=signs:=⟨_,rfl⟩;have HST:Hid (Strs (w.alloc (.cells #[.string ⟨#[76]⟩,.string ⟨#[82]⟩,.string ⟨#[46]⟩,.string ⟨#[76]⟩,.string ⟨#[82]⟩] 9)) (.slice (some ⟨w.heap.size,0,none⟩) 5 5) [⟨#[76]⟩,⟨#[82]⟩,⟨#[46]⟩,⟨#[76]⟩,⟨#[82]⟩]):=aH hst;have Yf:=aH hsg;clear xZ hst h hbk;go_enter Tryz.func93,Tryz.ntmps93
 go_upto_region 6 with fail
 have e5:Value.slice (some ⟨w.heap.size,0,none⟩) 5 5=.slice (some ⟨w.heap.size,0,none⟩) signs.length 5:=by rw[<-hsg];rfl
 rw[hsg,e5]at HST;rw[e5]at GV ⊢;clear hsg e5;generalize (w.alloc (.cells #[.string ⟨#[76]⟩,.string ⟨#[82]⟩,.string ⟨#[46]⟩,.string ⟨#[76]⟩,.string ⟨#[82]⟩] 9))=W at *;generalize (some (⟨w.heap.size,0,none⟩:Addr))=ga at *;have HZ:Hid (∀t,t∈signs->t.size<=1):=aH (by rw[<-Yf.out];decide);have HSL:Hid (0<signs.length/\signs.length<=200):=aH (by rw[<-Yf.out];decide);go_wp2_with (go_at_call 92;refine(mY HC.out (by omega) (most+1) (by omega)).mono ?_;rintro e w3 ⟨x,hx,rfl,hg⟩;have HG:=aH hg;have Ye:Hid (x<=8):=aH (by omega);clear hg hx)
 obtain⟨⟨k3,hk3,hc3⟩,e3⟩:=HG.out;go_loopw [8,9] (λsv jj wr=>∃(j k':Nat) (t:ByteArray),sv=.string t/\jj=.int .i64 ((j:Nat):Int)/\t.size+j<=8/\k'+j<=k+9/\Hid (Am w0 wr pc cv us k')/\Hid (fe (λb=>b=pc) W wr)) (λ_ jj _=>(intOf jj).toNat)
 case atStart=>exact⟨x,k3,⟨#[]⟩,rfl,rfl,by have:=Ye.out;show 0+x<=8;omega,by have:=Ye.out;omega,aH hc3,aH e3⟩
 case round=>
  obtain⟨j,k',t,rfl,rfl,htz,hkj,Qv,Oe⟩:=hrel;by_cases hj:0<j
  .have h1:(0:Int)<((j:Nat):Int):=by omega
   have hw:wrap64 (((j:Nat):Int)-1)=((j:Nat):Int)-1:=dS (by omega);have hst:Strs wr (.slice ga signs.length 5) signs:=lS.keep HST.out (λc hc hb=>Oe.out.block c (lS.blk HST.out hc hb) (GV.out c hb));have UW:=aH hst;clear hst;go_wp2_with (go_at_call 153;refine(K8 Qv.out (by omega) ga 5 signs UW.out HSL.out GV.out).mono ?_;rintro e w4 ⟨u,hu,rfl,hg⟩;have hu1:=HZ.out u hu;have ack:¬(9223372036854775807<t.size+u.size):=(by omega);have Kr:=aH hg;clear hg hu)
   obtain⟨⟨k4,hk4,hc4⟩,e4⟩:=Kr.out;go_roundw
   case rel=>exact⟨j-1,k4,t++u,rfl,by rw[show(((j-1:Nat):Nat):Int)=((j:Nat):Int)-1 by omega],by rw[qL];omega,by omega,aH hc4,aH (Oe.out.trans e4 λ_ _ h=>h)⟩
   case measure=>simp[intOf];omega
  .have hj0:j=0:=by omega
   subst hj0
   go_wp2_with (first
    |(go_at_call 94;refine(BB Qv.out (by omega) 15 (by omega)).mono ?_;rintro e w4 ⟨y,rfl,hg⟩;have Kr:=aH hg;clear hg)
    |(go_at_call 108;obtain⟨⟨k4,hk4,hc4⟩,e4⟩:=Kr.out;refine(uz hc4 (by omega) t _ rfl (by omega)).mono ?_;rintro e w5 ⟨t2,ht2,rfl,hg5⟩;have Qt:=aH hg5;have Yl:=aH e4;clear hg5 e4))
   all_goals go_ret
   .obtain⟨⟨k5,hk5,Fa⟩,e5⟩:=Qt.out
    exact⟨t2,by omega,rfl,⟨k5,by omega,Fa⟩,Yi.out.trans (Oe.out.trans (Yl.out.trans e5 λ_ _ h=>h) λ_ _ h=>h) λ_ _ h=>h⟩
   .obtain⟨⟨k4,hk4,hc4⟩,e4⟩:=Kr.out
    exact⟨t,by omega,rfl,⟨k4,by omega,hc4⟩,Yi.out.trans (Oe.out.trans e4 λ_ _ h=>h) λ_ _ h=>h⟩
set_option maxHeartbeats 1000000 in
theorem drawStrip_0(h:Am w0 w pc cv us k)(hk:k<=1000)(most:Nat)(hm:most<=8):
 Calls prog 93 #[.pointer (some ⟨pc,0,none⟩),.int .i64 0,.int .i64 ((most:Nat):Int)] w λe w'=>∃s:ByteArray,s.size<=9/\e=.returned (.string s)/\mf w0 w w' pc cv us k 20:=by
 obtain⟨sd,hbk⟩:=h.blk;have hpc:=bG hbk;have xZ:fe (λ_=>False) w ((w.alloc (.cells #[.string ⟨#[76]⟩,.string ⟨#[82]⟩,.string ⟨#[46]⟩,.string ⟨#[76]⟩,.string ⟨#[82]⟩] 9)).alloc (.cells #[.string ⟨#[84]⟩,.string ⟨#[70]⟩,.string ⟨#[46]⟩,.string ⟨#[46]⟩] 9)):=⟨rfl,rfl,rfl,by simp;omega,λb hb _=>(Below.heap_alloc _ _ _ (by rw[fw];omega)).trans (Below.heap_alloc _ _ _ hb)⟩;have hst:=BZ (w.alloc (.cells #[.string ⟨#[76]⟩,.string ⟨#[82]⟩,.string ⟨#[46]⟩,.string ⟨#[76]⟩,.string ⟨#[82]⟩] 9)) [⟨#[84]⟩,⟨#[70]⟩,⟨#[46]⟩,⟨#[46]⟩] (by decide);rw[fw]at hst;have hwm:wrap64 (((most:Nat):Int)+1)=(((most+1:Nat):Nat):Int):=by rw[dS (by omega)];omega
 have HC:=aH (h.keep xZ (λb e=>e.elim));have Yi:Hid (fe (λb=>b=pc) w ((w.alloc (.cells #[.string ⟨#[76]⟩,.string ⟨#[82]⟩,.string ⟨#[46]⟩,.string ⟨#[76]⟩,.string ⟨#[82]⟩] 9)).alloc (.cells #[.string ⟨#[84]⟩,.string ⟨#[70]⟩,.string ⟨#[46]⟩,.string ⟨#[46]⟩] 9))):=aH ⟨xZ.os,xZ.tape,xZ.output,xZ.size,λb hb _=>xZ.block b hb (λe=>e)⟩;have GV:Hid (∀b,(Value.slice (some ⟨(w.heap.size+1),0,none⟩) 4 4).ownBlock=some b->b≠pc):=aH λb hb e=>by
  have hb':(w.heap.size+1)=b:=by simpa [Value.ownBlock]using hb
  omega
 obtain⟨signs,hsg⟩:∃signs:List ByteArray,[⟨#[84]⟩,⟨#[70]⟩,⟨#[46]⟩,⟨#[46]⟩]=signs:=⟨_,rfl⟩;have HST:Hid (Strs ((w.alloc (.cells #[.string ⟨#[76]⟩,.string ⟨#[82]⟩,.string ⟨#[46]⟩,.string ⟨#[76]⟩,.string ⟨#[82]⟩] 9)).alloc (.cells #[.string ⟨#[84]⟩,.string ⟨#[70]⟩,.string ⟨#[46]⟩,.string ⟨#[46]⟩] 9)) (.slice (some ⟨(w.heap.size+1),0,none⟩) 4 4) [⟨#[84]⟩,⟨#[70]⟩,⟨#[46]⟩,⟨#[46]⟩]):=aH hst;have Yf:=aH hsg;clear xZ hst h hbk;go_enter Tryz.func93,Tryz.ntmps93
 go_upto_region 6 with fail
 have e5:Value.slice (some ⟨(w.heap.size+1),0,none⟩) 4 4=.slice (some ⟨(w.heap.size+1),0,none⟩) signs.length 4:=by rw[<-hsg];rfl
 rw[hsg,e5]at HST;rw[e5]at GV ⊢;clear hsg e5;generalize ((w.alloc (.cells #[.string ⟨#[76]⟩,.string ⟨#[82]⟩,.string ⟨#[46]⟩,.string ⟨#[76]⟩,.string ⟨#[82]⟩] 9)).alloc (.cells #[.string ⟨#[84]⟩,.string ⟨#[70]⟩,.string ⟨#[46]⟩,.string ⟨#[46]⟩] 9))=W at *;generalize (some (⟨(w.heap.size+1),0,none⟩:Addr))=ga at *;have HZ:Hid (∀t,t∈signs->t.size<=1):=aH (by rw[<-Yf.out];decide);have HSL:Hid (0<signs.length/\signs.length<=200):=aH (by rw[<-Yf.out];decide);go_wp2_with (go_at_call 92;refine(mY HC.out (by omega) (most+1) (by omega)).mono ?_;rintro e w3 ⟨x,hx,rfl,hg⟩;have HG:=aH hg;have Ye:Hid (x<=8):=aH (by omega);clear hg hx)
 obtain⟨⟨k3,hk3,hc3⟩,e3⟩:=HG.out;go_loopw [8,9] (λsv jj wr=>∃(j k':Nat) (t:ByteArray),sv=.string t/\jj=.int .i64 ((j:Nat):Int)/\t.size+j<=8/\k'+j<=k+9/\Hid (Am w0 wr pc cv us k')/\Hid (fe (λb=>b=pc) W wr)) (λ_ jj _=>(intOf jj).toNat)
 case atStart=>exact⟨x,k3,⟨#[]⟩,rfl,rfl,by have:=Ye.out;show 0+x<=8;omega,by have:=Ye.out;omega,aH hc3,aH e3⟩
 case round=>
  obtain⟨j,k',t,rfl,rfl,htz,hkj,Qv,Oe⟩:=hrel;by_cases hj:0<j
  .have h1:(0:Int)<((j:Nat):Int):=by omega
   have hw:wrap64 (((j:Nat):Int)-1)=((j:Nat):Int)-1:=dS (by omega);have hst:Strs wr (.slice ga signs.length 4) signs:=lS.keep HST.out (λc hc hb=>Oe.out.block c (lS.blk HST.out hc hb) (GV.out c hb));have UW:=aH hst;clear hst;go_wp2_with (go_at_call 153;refine(K8 Qv.out (by omega) ga 4 signs UW.out HSL.out GV.out).mono ?_;rintro e w4 ⟨u,hu,rfl,hg⟩;have hu1:=HZ.out u hu;have ack:¬(9223372036854775807<t.size+u.size):=(by omega);have Kr:=aH hg;clear hg hu)
   obtain⟨⟨k4,hk4,hc4⟩,e4⟩:=Kr.out;go_roundw
   case rel=>exact⟨j-1,k4,t++u,rfl,by rw[show(((j-1:Nat):Nat):Int)=((j:Nat):Int)-1 by omega],by rw[qL];omega,by omega,aH hc4,aH (Oe.out.trans e4 λ_ _ h=>h)⟩
   case measure=>simp[intOf];omega
  .have hj0:j=0:=by omega
   subst hj0
   go_wp2_with (first
    |(go_at_call 94;refine(BB Qv.out (by omega) 15 (by omega)).mono ?_;rintro e w4 ⟨y,rfl,hg⟩;have Kr:=aH hg;clear hg)
    |(go_at_call 108;obtain⟨⟨k4,hk4,hc4⟩,e4⟩:=Kr.out;refine(uz hc4 (by omega) t _ rfl (by omega)).mono ?_;rintro e w5 ⟨t2,ht2,rfl,hg5⟩;have Qt:=aH hg5;have Yl:=aH e4;clear hg5 e4))
   all_goals go_ret
   .obtain⟨⟨k5,hk5,Fa⟩,e5⟩:=Qt.out
    exact⟨t2,by omega,rfl,⟨k5,by omega,Fa⟩,Yi.out.trans (Oe.out.trans (Yl.out.trans e5 λ_ _ h=>h) λ_ _ h=>h) λ_ _ h=>h⟩
   .obtain⟨⟨k4,hk4,hc4⟩,e4⟩:=Kr.out
    exact⟨t,by omega,rfl,⟨k4,by omega,hc4⟩,Yi.out.trans (Oe.out.trans e4 λ_ _ h=>h) λ_ _ h=>h⟩
set_option maxHeartbeats 1000000 in
theorem drawStrip_2(h:Am w0 w pc cv us k)(hk:k<=1000)(most:Nat)(hm:most<=8)(kd:Nat)(hkd:2<=kd/\kd<=3):
 Calls prog 93 #[.pointer (some ⟨pc,0,none⟩),.int .i64 ((kd:Nat):Int),.int .i64 ((most:Nat):Int)] w λe w'=>∃s:ByteArray,s.size<=9/\e=.returned (.string s)/\mf w0 w w' pc cv us k 20:=by
 obtain⟨sd,hbk⟩:=h.blk;have hpc:=bG hbk;have xZ:fe (λ_=>False) w ((w.alloc (.cells #[.string ⟨#[76]⟩,.string ⟨#[82]⟩,.string ⟨#[46]⟩,.string ⟨#[76]⟩,.string ⟨#[82]⟩] 9)).alloc (.cells #[.string ⟨#[46]⟩,.string ⟨#[46]⟩,.string ⟨#[46]⟩,.string ⟨#[76]⟩,.string ⟨#[82]⟩] 9)):=⟨rfl,rfl,rfl,by simp;omega,λb hb _=>(Below.heap_alloc _ _ _ (by rw[fw];omega)).trans (Below.heap_alloc _ _ _ hb)⟩;have hst:=BZ (w.alloc (.cells #[.string ⟨#[76]⟩,.string ⟨#[82]⟩,.string ⟨#[46]⟩,.string ⟨#[76]⟩,.string ⟨#[82]⟩] 9)) [⟨#[46]⟩,⟨#[46]⟩,⟨#[46]⟩,⟨#[76]⟩,⟨#[82]⟩] (by decide);rw[fw]at hst;have hwm:wrap64 (((most:Nat):Int)+1)=(((most+1:Nat):Nat):Int):=by rw[dS (by omega)];omega
 have HC:=aH (h.keep xZ (λb e=>e.elim));have Yi:Hid (fe (λb=>b=pc) w ((w.alloc (.cells #[.string ⟨#[76]⟩,.string ⟨#[82]⟩,.string ⟨#[46]⟩,.string ⟨#[76]⟩,.string ⟨#[82]⟩] 9)).alloc (.cells #[.string ⟨#[46]⟩,.string ⟨#[46]⟩,.string ⟨#[46]⟩,.string ⟨#[76]⟩,.string ⟨#[82]⟩] 9))):=aH ⟨xZ.os,xZ.tape,xZ.output,xZ.size,λb hb _=>xZ.block b hb (λe=>e)⟩;have GV:Hid (∀b,(Value.slice (some ⟨(w.heap.size+1),0,none⟩) 5 5).ownBlock=some b->b≠pc):=aH λb hb e=>by
  have hb':(w.heap.size+1)=b:=by simpa [Value.ownBlock]using hb
  omega
 obtain⟨signs,hsg⟩:∃signs:List ByteArray,[⟨#[46]⟩,⟨#[46]⟩,⟨#[46]⟩,⟨#[76]⟩,⟨#[82]⟩]=signs:=⟨_,rfl⟩;have HST:Hid (Strs ((w.alloc (.cells #[.string ⟨#[76]⟩,.string ⟨#[82]⟩,.string ⟨#[46]⟩,.string ⟨#[76]⟩,.string ⟨#[82]⟩] 9)).alloc (.cells #[.string ⟨#[46]⟩,.string ⟨#[46]⟩,.string ⟨#[46]⟩,.string ⟨#[76]⟩,.string ⟨#[82]⟩] 9)) (.slice (some ⟨(w.heap.size+1),0,none⟩) 5 5) [⟨#[46]⟩,⟨#[46]⟩,⟨#[46]⟩,⟨#[76]⟩,⟨#[82]⟩]):=aH hst;have Yf:=aH hsg;clear xZ hst h hbk;have k1:(1:Int)<((kd:Nat):Int):=by omega
 have k2:¬((kd:Nat):Int)=0:=by omega
 clear hkd;go_enter Tryz.func93,Tryz.ntmps93
 go_upto_region 6 with fail
 have e5:Value.slice (some ⟨(w.heap.size+1),0,none⟩) 5 5=.slice (some ⟨(w.heap.size+1),0,none⟩) signs.length 5:=by rw[<-hsg];rfl
 rw[hsg,e5]at HST;rw[e5]at GV ⊢;clear hsg e5;generalize ((w.alloc (.cells #[.string ⟨#[76]⟩,.string ⟨#[82]⟩,.string ⟨#[46]⟩,.string ⟨#[76]⟩,.string ⟨#[82]⟩] 9)).alloc (.cells #[.string ⟨#[46]⟩,.string ⟨#[46]⟩,.string ⟨#[46]⟩,.string ⟨#[76]⟩,.string ⟨#[82]⟩] 9))=W at *;generalize (some (⟨(w.heap.size+1),0,none⟩:Addr))=ga at *;have HZ:Hid (∀t,t∈signs->t.size<=1):=aH (by rw[<-Yf.out];decide);have HSL:Hid (0<signs.length/\signs.length<=200):=aH (by rw[<-Yf.out];decide);go_wp2_with (go_at_call 92;refine(mY HC.out (by omega) (most+1) (by omega)).mono ?_;rintro e w3 ⟨x,hx,rfl,hg⟩;have HG:=aH hg;have Ye:Hid (x<=8):=aH (by omega);clear hg hx)
 obtain⟨⟨k3,hk3,hc3⟩,e3⟩:=HG.out;go_loopw [8,9] (λsv jj wr=>∃(j k':Nat) (t:ByteArray),sv=.string t/\jj=.int .i64 ((j:Nat):Int)/\t.size+j<=8/\k'+j<=k+9/\Hid (Am w0 wr pc cv us k')/\Hid (fe (λb=>b=pc) W wr)) (λ_ jj _=>(intOf jj).toNat)
 case atStart=>exact⟨x,k3,⟨#[]⟩,rfl,rfl,by have:=Ye.out;show 0+x<=8;omega,by have:=Ye.out;omega,aH hc3,aH e3⟩
 case round=>
  obtain⟨j,k',t,rfl,rfl,htz,hkj,Qv,Oe⟩:=hrel;by_cases hj:0<j
  .have h1:(0:Int)<((j:Nat):Int):=by omega
   have hw:wrap64 (((j:Nat):Int)-1)=((j:Nat):Int)-1:=dS (by omega);have hst:Strs wr (.slice ga signs.length 5) signs:=lS.keep HST.out (λc hc hb=>Oe.out.block c (lS.blk HST.out hc hb) (GV.out c hb));have UW:=aH hst;clear hst;go_wp2_with (go_at_call 153;refine(K8 Qv.out (by omega) ga 5 signs UW.out HSL.out GV.out).mono ?_;rintro e w4 ⟨u,hu,rfl,hg⟩;have hu1:=HZ.out u hu;have ack:¬(9223372036854775807<t.size+u.size):=(by omega);have Kr:=aH hg;clear hg hu)
   obtain⟨⟨k4,hk4,hc4⟩,e4⟩:=Kr.out;go_roundw
   case rel=>exact⟨j-1,k4,t++u,rfl,by rw[show(((j-1:Nat):Nat):Int)=((j:Nat):Int)-1 by omega],by rw[qL];omega,by omega,aH hc4,aH (Oe.out.trans e4 λ_ _ h=>h)⟩
   case measure=>simp[intOf];omega
  .have hj0:j=0:=by omega
   subst hj0
   go_wp2_with (first
    |(go_at_call 94;refine(BB Qv.out (by omega) 15 (by omega)).mono ?_;rintro e w4 ⟨y,rfl,hg⟩;have Kr:=aH hg;clear hg)
    |(go_at_call 108;obtain⟨⟨k4,hk4,hc4⟩,e4⟩:=Kr.out;refine(uz hc4 (by omega) t _ rfl (by omega)).mono ?_;rintro e w5 ⟨t2,ht2,rfl,hg5⟩;have Qt:=aH hg5;have Yl:=aH e4;clear hg5 e4))
   all_goals go_ret
   .obtain⟨⟨k5,hk5,Fa⟩,e5⟩:=Qt.out
    exact⟨t2,by omega,rfl,⟨k5,by omega,Fa⟩,Yi.out.trans (Oe.out.trans (Yl.out.trans e5 λ_ _ h=>h) λ_ _ h=>h) λ_ _ h=>h⟩
   .obtain⟨⟨k4,hk4,hc4⟩,e4⟩:=Kr.out
    exact⟨t,by omega,rfl,⟨k4,by omega,hc4⟩,Yi.out.trans (Oe.out.trans e4 λ_ _ h=>h) λ_ _ h=>h⟩
theorem Ed(h:Am w0 w pc cv us k)(hk:k<=1000)(most:Nat)(hm:most<=8)(kd:Nat)(hd:kd=0\/kd<4):
 Calls prog 93 #[.pointer (some ⟨pc,0,none⟩),.int .i64 ((kd:Nat):Int),.int .i64 ((most:Nat):Int)] w λe w'=>∃s:ByteArray,s.size<=9/\e=.returned (.string s)/\mf w0 w w' pc cv us k 20:=by
 by_cases h0:kd=0
 .subst h0;exact drawStrip_0 h hk most hm
 .by_cases h1:kd=1
  .subst h1;exact drawStrip_1 h hk most hm
  .exact drawStrip_2 h hk most hm kd (by omega)
def aaw(w0 w:World)(pc:Nat)(cv:Value)(us:List Nat)(k:Nat)(e:Ending)(w':World):Prop:=
 ∃(z:Int) (s:ByteArray),s.size<=9/\(-1<=z/\z<=4)/\e=.returned (.tuple #[.int .i64 z,.string s])/\mf w0 w w' pc cv us k 30
set_option maxHeartbeats 1000000 in
theorem JH(h:Am w0 w pc cv us k)(hk:k<=900)(most:Nat)(hm:most<=8):
 Calls prog 51 #[.pointer (some ⟨pc,0,none⟩),.int .i64 ((most:Nat):Int)] w (aaw w0 w pc cv us k):=by
 have H:=aH h;clear h;go_enter Tryz.func51,Tryz.ntmps51
 go_upto_region 3 with(first
  |(go_at_call 92;refine(mY H.out (by omega) 4 (by omega)).mono ?_;rintro e w1 ⟨x,hx,rfl,hg⟩;have HG:=aH hg;clear hg)
  |(go_at_call 93;obtain⟨⟨k1,hk1,hc1⟩,e1⟩:=HG.out;refine(Ed hc1 (by omega) most hm x hx).mono ?_;rintro e w2 ⟨s,hs,rfl,hg2⟩;have HG2:=aH hg2;have HE1:=aH e1;clear hg2 hc1 e1))
 obtain⟨⟨k2,hk2,hc2⟩,e2⟩:=HG2.out;have HE2:=aH e2;have HC2:=aH hc2;clear e2 hc2
 go_upto_region 5 with(first
  |(go_at_call 94;refine(BB HC2.out (by omega) 20 (by omega)).mono ?_;rintro e w3 ⟨b,rfl,hg3⟩;have HG3:=aH hg3;clear hg3)
  |(go_at_call 52;obtain⟨⟨k3,hk3,hc3⟩,e3⟩:=HG3.out;obtain⟨sd,hbk⟩:=hc3.blk;have hpc:=bG hbk;have xZ:fe (λ_=>False) w3 (w3.alloc (.cells #[.int .i64 (-1),.int .i64 4] 3)):=⟨rfl,rfl,rfl,by simp,λb hb _=>Below.heap_alloc _ _ _ hb⟩;have hin:=Vq w3;have hc4:=hc3.keep xZ (λb e=>e.elim);refine(Fg hc4 (by omega) _ [-1,4] hin ⟨by decide,by decide⟩ (λb hb e=>by have hb':w3.heap.size=b:=by{ simpa [Value.ownBlock]using hb };omega)).mono ?_;rintro e w5 ⟨z,hz,rfl,hg5⟩;have Qt:=aH hg5;have Vn:=aH e3;have HZ:=aH hz;have HKA:=aH xZ;clear hg5 hc4 e3 xZ hin hpc hbk hz hc3))
 all_goals go_wp2
 all_goals go_ret2
 .obtain⟨⟨k5,hk5,Fa⟩,e5⟩:=Qt.out
  have hz:-1<=z/\z<=4:=by rcases dD.1 HZ.out with rfl|hz;exact⟨by decide,by decide⟩;rcases dD.1 hz with rfl|hz;exact⟨by decide,by decide⟩;cases hz
  have e4:fe (λb=>b=pc) w3 (w3.alloc (.cells #[.int .i64 (-1),.int .i64 4] 3)):=⟨HKA.out.os,HKA.out.tape,HKA.out.output,HKA.out.size,λb hb _=>HKA.out.block b hb (λe=>e)⟩;exact⟨_,s,hs,hz,rfl,⟨k5,by omega,Fa⟩,HE1.out.trans (HE2.out.trans (Vn.out.trans (e4.trans e5 λ_ _ h=>h) λ_ _ h=>h) λ_ _ h=>h) λ_ _ h=>h⟩
 .obtain⟨⟨k3,hk3,hc3⟩,e3⟩:=HG3.out
  exact⟨_,s,hs,by omega,rfl,⟨k3,by omega,hc3⟩,HE1.out.trans (HE2.out.trans e3 λ_ _ h=>h) λ_ _ h=>h⟩
theorem TS(w:World):Ints (w.alloc (.cells #[.int .i64 4,.int .i64 5,.int .i64 6,.int .i64 8] 3)) (.slice (some ⟨w.heap.size,0,none⟩) 4 4) [4,5,6,8]:=by
 have hown:(w.alloc (.cells #[.int .i64 4,.int .i64 5,.int .i64 6,.int .i64 8] 3)).ownsRow 0 3 1 (.slice (some ⟨w.heap.size,0,none⟩) 4 4) 4 (([4,5,6,8]:List Int).map (Value.int .i64)):=
  ⟨by simp,.inr ⟨w.heap.size,4,#[.int .i64 4,.int .i64 5,.int .i64 6,.int .i64 8],rfl,az _,heap_alloc_new w _,ai _,by decide,rfl,by simp⟩⟩
 exact Ints.eO hown (by decide)
def aav(w:World)(e:Ending)(w':World):Prop:=
 ∃(z:Int) (s:ByteArray),s.size<=9/\(-1<=z/\z<=4)/\e=.returned (.tuple #[.int .i64 z,.string s])/\Ext w w'
theorem Ml(v:Value)(us:List Nat)(w:World)(hv:lS w v (JV us))(hs:∀u,u∈us->u<256):
 Calls prog 17 #[v] w (aav w):=by
 obtain⟨a,cap,rfl,-,-,-⟩:=id hv;have hb2:(w.alloc (.cells #[.slice a (JV us).length cap,.int .i64 0,.int .u64 0] 77)).heap[w.heap.size]?=some (.cells #[.slice a (JV us).length cap,.int .i64 0,.int .u64 0] 77 (0,0)):=heap_alloc_new _ _;have hx2:Ext w (w.alloc (.cells #[.slice a (JV us).length cap,.int .i64 0,.int .u64 0] 77)):=by go_grown
 go_enter Tryz.func17,Tryz.ntmps17
 go_upto_region 2 with fail
 generalize (w.alloc (.cells #[.slice a (JV us).length cap,.int .i64 0,.int .u64 0] 77))=W at *;have hc0:Am w W w.heap.size (.slice a (JV us).length cap) us 0:=⟨hv,hs,hx2,by omega,0,hb2⟩;have xZ:fe (λ_=>False) W (W.alloc (.cells #[.int .i64 4,.int .i64 5,.int .i64 6,.int .i64 8] 3)):=⟨rfl,rfl,rfl,by simp,λb hb _=>Below.heap_alloc _ _ _ hb⟩;have hpc:w.heap.size<W.heap.size:=bG hb2;have H1:=aH (hc0.keep xZ (λb e=>e.elim));have H2:=aH (TS W);have H3:Hid (∀b,Value.ownBlock (.slice (some ⟨W.heap.size,0,none⟩) 4 4)=some b->b≠w.heap.size):=aH λb hb e=>by
  have hb':W.heap.size=b:=by simpa [Value.ownBlock]using hb
  omega
 clear xZ hc0 hb2 hx2 hpc
 go_wp2_with (first
  |(go_at_call 52;refine(Fg H1.out (by omega) _ [4,5,6,8] H2.out ⟨by decide,by decide⟩ H3.out).mono ?_;rintro e w3 ⟨z,hz,rfl,hg3⟩;obtain⟨m,rfl,hm⟩:∃m:Nat,z=((m:Nat):Int)/\m<=8:=adf hz;have HG3:=aH hg3;clear hz hg3)
  |(go_at_call 51;obtain⟨⟨k3,hk3,hc3⟩,e3⟩:=HG3.out;refine(JH hc3 (by omega) m hm).mono ?_;rintro e w4 ⟨z,s,hs4,Nz,rfl,hg4⟩;have Kr:=aH hg4;clear hg4 e3 hc3))
 go_ret2
 obtain⟨⟨k5,hk5,Fa⟩,e5⟩:=Kr.out;exact⟨_,s,hs4,Nz,rfl,Fa.ext⟩
end Go.Proofs.YteknjeohbcgpdaaGreatDoor