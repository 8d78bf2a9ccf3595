/-
  A row of forms read as the list of forms. (8 texts.)
-/
import Derived.Test.YteknjeohbcgpdaaGreatDoorK42
import Derived.Test.YteknjeohbcgpdaaGreatDoorK43
import Derived.Test.YteknjeohbcgpdaaGreatDoorK45
import Derived.WalkSmall
set_option maxRecDepth 100000
namespace Go.Proofs.YteknjeohbcgpdaaGreatDoor
open Tryz
section
open Go.RowKit
open bz (rZ GB TL rowOk qM fr)
theorem yO:(prog.info? 164).map (λi=>(i.zero,i.size))=some (some (.agg (Array.replicate 256 (.bool false))),256):=by kernel_rfl
end
section
open Go.RowKit
def Yv:List Row:=[⟨0,[],18,[0]⟩,⟨1,[],19,[5]⟩,⟨2,[0,1],20,[17,18]⟩,⟨3,[2],21,[19]⟩,⟨4,[],22,[1]⟩,⟨5,[],23,[5]⟩,⟨6,[4,5],24,[21,22]⟩,⟨7,[6],25,[23]⟩,⟨8,[3,7],26,[20,24]⟩]
set_option maxHeartbeats 400000 in
theorem IK(v u:Value)(ss:List ByteArray)(w:World)(hv:Strs w v ss)(hu:Strs w u ss)(hl:ss.length<=1000000):Calls prog 24 #[v,u] w λe w'=>e=.returned (.bool true)/\Ext w w':=by
 obtain⟨a,cap,rfl,hcap,xP⟩:=hv.open;obtain⟨a2,cap2,rfl,hcap2,abU⟩:=hu.open;go_enter Tryz.func24,Tryz.ntmps24
 go_wp2
 go_loopw [5] (λii wr=>∃k:Nat,k<=ss.length/\ii=.int .i64 ((k:Nat):Int)/\Ext w wr) (λii _=>ss.length-(intOf ii).toNat)
 case atStart=>exact⟨0,az _,by go_num,Below.refl _ _⟩
 case round=>
  obtain⟨k,hk,rfl,hx⟩:=hrel;by_cases hlt:k<ss.length
  .have h1:((k:Nat):Int)<((ss.length:Nat):Int):=by omega
   obtain⟨b,off,rfl,hcl⟩:=(hv.ext hx).at hlt;obtain⟨b2,YA,rfl,Ps⟩:=(hu.ext hx).at hlt;have c1:=hcl k hlt;have c2:=Ps k hlt;generalize ss[k]'hlt=sk at c1 c2;clear hcl Ps hv hu;go_upto_region 6 with fail
   refine bW (λV=>V.cell? ⟨b,off+k,none⟩=some (.string sk)/\V.cell? ⟨b2,YA+k,none⟩=some (.string sk)) [] Yv (by kernel_rfl) ⟨by kernel_rfl,by kernel_rfl,by kernel_rfl⟩ ⟨c1,c2⟩ (λax ae=>?_);(refine bT 0 ax ae ?_;refine bT 1 ax ae ?_;refine bT 2 ax ae ?_;refine bT 3 ax ae ?_;refine bT 4 ax ae ?_;refine bT 5 ax ae ?_;refine bT 6 ax ae ?_;refine bT 7 ax ae ?_;refine bT 8 ax ae ?_);refine ow ax [] [] ?_ (hm:=rfl);clear ax ae;go_wp2
   go_roundw
   case rel=>exact⟨k+1,by omega,by go_num,ay hx (bS ⟨1,rfl⟩)⟩
   case measure=>simp[intOf];omega
  .have h1:¬(((k:Nat):Int)<((ss.length:Nat):Int)):=by omega
   go_wp2
   go_ret
   exact⟨rfl,hx⟩
end
section
open Go.RowKit
open bz (dC Nd)
theorem IL(a:Option Addr)(n cap:Nat)(w:World):Calls prog 16 #[.slice a n cap] w λe w'=>e=.returned (.bool (decide ((65536:Int)<((n:Nat):Int))))/\Ext w w':=by
 go_enter Tryz.func16,Tryz.ntmps16
 go_wp2
 go_ret
 exact⟨rfl,Below.refl _ _⟩
def Yw:List Row:=[⟨0,[],18,[0]⟩,⟨1,[],19,[5]⟩,⟨2,[0,1],20,[17,18]⟩,⟨3,[2],21,[19]⟩,⟨4,[],22,[1]⟩,⟨5,[],23,[5]⟩,⟨6,[4,5],24,[21,22]⟩,⟨7,[6],25,[23]⟩,⟨8,[3,7],26,[20,24]⟩]
set_option maxHeartbeats 400000 in
theorem Co(v u:Value)(l:List Int)(w:World)(hv:Ints w v l)(hu:Ints w u l)(hl:l.length<=1000000):Calls prog 59 #[v,u] w λe w'=>e=.returned (.bool true)/\Ext w w':=by
 obtain⟨a,cap,rfl,hcap,xP,-⟩:=id hv;obtain⟨a2,cap2,rfl,hcap2,abU,-⟩:=id hu;go_enter Tryz.func59,Tryz.ntmps59
 go_wp2
 go_loopw [5] (λii wr=>∃k:Nat,k<=l.length/\ii=.int .i64 ((k:Nat):Int)/\Ext w wr) (λii _=>l.length-(intOf ii).toNat)
 case atStart=>exact⟨0,az _,by go_num,Below.refl _ _⟩
 case round=>
  obtain⟨k,hk,rfl,hx⟩:=hrel;by_cases hlt:k<l.length
  .have h1:((k:Nat):Int)<((l.length:Nat):Int):=by omega
   obtain⟨a',c',e',-,-,hc⟩:=hv.ext hx;obtain⟨b,off,ea,hcl⟩:=hc (by omega);obtain⟨a2',c2',e2',-,-,hc2⟩:=hu.ext hx;obtain⟨b2,YA,ea2,Ps⟩:=hc2 (by omega);simp only[Value.slice.injEq]at e' e2';obtain⟨rfl,-,rfl⟩:=e';obtain⟨rfl,-,rfl⟩:=e2';subst ea;subst ea2;have c1:=hcl k hlt;have c2:=Ps k hlt;generalize jv l k=sk at c1 c2;clear hcl Ps hv hu hc hc2;go_upto_region 6 with fail
   refine bW (λV=>V.cell? ⟨b,off+k,none⟩=some (.int .i64 sk)/\V.cell? ⟨b2,YA+k,none⟩=some (.int .i64 sk)) [] Yw (by kernel_rfl) ⟨by kernel_rfl,by kernel_rfl,by kernel_rfl⟩ ⟨c1,c2⟩ (λax ae=>?_);(refine bT 0 ax ae ?_;refine bT 1 ax ae ?_;refine bT 2 ax ae ?_;refine bT 3 ax ae ?_;refine bT 4 ax ae ?_;refine bT 5 ax ae ?_;refine bT 6 ax ae ?_;refine bT 7 ax ae ?_;refine bT 8 ax ae ?_);refine ow ax [] [] ?_ (hm:=rfl);clear ax ae;go_wp2
   go_roundw
   case rel=>exact⟨k+1,by omega,by go_num,ay hx (bS ⟨1,rfl⟩)⟩
   case measure=>simp[intOf];omega
  .have h1:¬(((k:Nat):Int)<((l.length:Nat):Int)):=by omega
   go_wp2
   go_ret
   exact⟨rfl,hx⟩
def Yx:List Row:=[⟨0,[],21,[2]⟩,⟨1,[0],22,[20]⟩,⟨2,[],23,[5]⟩,⟨3,[1,2],24,[21,22]⟩,⟨4,[3],25,[23]⟩,⟨5,[4],26,[24]⟩,⟨6,[],27,[3]⟩,⟨7,[6],28,[26]⟩,⟨8,[],29,[5]⟩,⟨9,[7,8],30,[27,28]⟩,⟨10,[9],31,[29]⟩,⟨11,[10],32,[30]⟩,⟨12,[5,11],33,[25,31]⟩,⟨13,[12],34,[32]⟩,⟨14,[13,12],35,[33]⟩,⟨15,[14],36,[2,34]⟩,⟨16,[15,14],37,[35,34]⟩,⟨17,[14],38,[5,34]⟩,⟨18,[16,17,14],39,[36,37,34]⟩,⟨19,[18,14],40,[38,34]⟩,⟨20,[19,14],41,[39,34]⟩,⟨21,[14],42,[3,34]⟩,⟨22,[21,14],43,[41,34]⟩,⟨23,[14],44,[5,34]⟩,⟨24,[22,23,14],45,[42,43,34]⟩,⟨25,[24,14],46,[44,34]⟩,⟨26,[25,14],47,[45,34]⟩,⟨27,[20,26,14,14],48,[40,46,34]⟩,⟨28,[27,14],49,[47,34]⟩,⟨29,[14,28],50,[34,48]⟩]
set_option maxHeartbeats 1000000 in
theorem Cq(v u:Value)(F:dC)(w:World)(h:eX w 0 v F)(k:eX w 0 u F)(Kg:F.length<=1000000)(hl:∀i (hi:i<F.length),(F[i]).1.length<=1000000/\(F[i]).2.length<=1000000):Calls prog 22 #[.agg #[v],.agg #[u]] w λe w'=>e=.returned (.bool true)/\Ext w w':=by
 obtain⟨a,cap,rfl,hc1,hm1,-⟩:=id h;obtain⟨a2,cap2,rfl,hc2,hm2,-⟩:=id k;have hx2:Ext w ((w.alloc (.cells #[.slice a F.length cap] 28)).alloc (.cells #[.slice a2 F.length cap2] 28)):=by go_grown
 have b0:((w.alloc (.cells #[.slice a F.length cap] 28)).alloc (.cells #[.slice a2 F.length cap2] 28)).heap[w.heap.size]?=some (.cells #[.slice a F.length cap] 28 (0,0)):=by
  rw[Below.heap_alloc _ _ _ (by simp)];exact heap_alloc_new _ _
 have b1:((w.alloc (.cells #[.slice a F.length cap] 28)).alloc (.cells #[.slice a2 F.length cap2] 28)).heap[w.heap.size+1]?=some (.cells #[.slice a2 F.length cap2] 28 (0,0)):=by
  have h:=heap_alloc_new (w.alloc (.cells #[.slice a F.length cap] 28)) (.cells #[.slice a2 F.length cap2] 28);rw[fw]at h;exact h
 have HL:=aH hl;clear hl;go_enter Tryz.func22,Tryz.ntmps22
 go_upto_region 1 with fail
 generalize (w.alloc (.cells #[.slice a F.length cap] 28)).alloc (.cells #[.slice a2 F.length cap2] 28)=W at *;have c0:=cell_of_row W w.heap.size 0 _ _ _ b0;have c1:=cell_of_row W (w.heap.size+1) 0 _ _ _ b1;simp only[gE]at c0 c1;go_upto_region 4 with fail
 clear c0 c1;go_loopw [5] (λii wr=>∃i,i<=F.length/\ii=.int .i64 ((i:Nat):Int)/\Ext W wr) (λii _=>F.length-(intOf ii).toNat)
 case atStart=>exact⟨0,az _,rfl,Below.refl _ _⟩
 case round=>
  obtain⟨i,hi,rfl,hE⟩:=hrel;have c0:=cell_of_row wr w.heap.size 0 _ _ _ ((hE.block _ (bG b0)).trans b0);have c1:=cell_of_row wr (w.heap.size+1) 0 _ _ _ ((hE.block _ (bG b1)).trans b1);simp only[gE]at c0 c1;have TH:=ay hx2 hE;by_cases hlt:i<F.length
  .have h1:((i:Nat):Int)<(F.length:Int):=by omega
   obtain⟨b1',d1,aL,cL,aR,cR,he1,-,l1,r1,iL,iR⟩:=(h.ext TH).at hlt;obtain⟨b2',d2,Ko,Kn,MG,Mv,he2,-,l2,r2,iL2,iR2⟩:=(k.ext TH).at hlt;simp only[Value.slice.injEq]at he1 he2;obtain⟨rfl,-,rfl⟩:=he1;obtain⟨rfl,-,rfl⟩:=he2
   have pq:∀V:World,Ext wr V->(V.cell? ⟨w.heap.size,0,none⟩=some (.slice (some ⟨b1',0,none⟩) F.length cap)/\V.cell? ⟨w.heap.size+1,0,none⟩=some (.slice (some ⟨b2',0,none⟩) F.length cap2))/\V.cell? ⟨b1',i*2,none⟩=some (.slice aL (F[i]).1.length cL)/\V.cell? ⟨b1',i*2+1,none⟩=some (.slice aR (F[i]).2.length cR)/\V.cell? ⟨b2',i*2,none⟩=some (.slice Ko (F[i]).1.length Kn)/\V.cell? ⟨b2',i*2+1,none⟩=some (.slice MG (F[i]).2.length Mv):=λV hV=>
    ⟨⟨(hV.cell (lt_of_cell c0)).trans c0,(hV.cell (lt_of_cell c1)).trans c1⟩,(hV.cell (lt_of_cell l1)).trans l1,(hV.cell (lt_of_cell r1)).trans r1,(hV.cell (lt_of_cell l2)).trans l2,(hV.cell (lt_of_cell r2)).trans r2⟩
   have hI:∀V,Ext wr V->Calls prog 59 #[.slice aL (F[i]).1.length cL,.slice Ko (F[i]).1.length Kn] V (λe w'=>e=.returned (.bool true)/\Ext V w'):=λV hV=>Co _ _ _ V (iL.ext hV) (iL2.ext hV) (by rw[bu];exact(HL.out i hlt).1)
   have hJ:∀V,Ext wr V->Calls prog 59 #[.slice aR (F[i]).2.length cR,.slice MG (F[i]).2.length Mv] V (λe w'=>e=.returned (.bool true)/\Ext V w'):=λV hV=>Co _ _ _ V (iR.ext hV) (iR2.ext hV) (by rw[bu];exact(HL.out i hlt).2)
   have HE:=aH (And.intro hE hlt);have HS:=aH pq;have HIJ:=aH (And.intro hI hJ);have hxd:Ext wr wr.drew:=⟨rfl,rfl,rfl,ai _,λ_ _=>rfl⟩;have ae:=pq _ hxd;clear l1 r1 l2 r2 iL iR iL2 iR2 pq hI hJ hE TH;go_upto_region 6 with fail
   clear c0 c1;generalize (F[i]).1=lf at *;generalize (F[i]).2=rf at *;refine bW (λV:World=>(V.cell? ⟨w.heap.size,0,none⟩=some (.slice (some ⟨b1',0,none⟩) F.length cap)/\V.cell? ⟨w.heap.size+1,0,none⟩=some (.slice (some ⟨b2',0,none⟩) F.length cap2))/\V.cell? ⟨b1',i*2,none⟩=some (.slice aL lf.length cL)/\V.cell? ⟨b1',i*2+1,none⟩=some (.slice aR rf.length cR)/\V.cell? ⟨b2',i*2,none⟩=some (.slice Ko lf.length Kn)/\V.cell? ⟨b2',i*2+1,none⟩=some (.slice MG rf.length Mv)) [29] Yx (by kernel_rfl) ⟨by kernel_rfl,by kernel_rfl,by kernel_rfl⟩ ae (λax ae=>?_);(refine bT 0 ax ae ?_;refine bT 1 ax ae ?_;refine bT 2 ax ae ?_;refine bT 3 ax ae ?_;refine bT 4 ax ae ?_;refine bT 5 ax ae ?_;refine bT 6 ax ae ?_;refine bT 7 ax ae ?_;refine bT 8 ax ae ?_;refine bT 9 ax ae ?_;refine bT 10 ax ae ?_;refine bT 11 ax ae ?_);(refine oZ ax (i:=12) λK hK=>?_;go_simp);refine(HIJ.out.1 _ hxd).mono ?_;rintro e w5 ⟨rfl,hx5⟩;have Ha:=ay hxd hx5;have ae:=HS.out _ Ha;refine hK.out _ _ (λ_=>ae) ?_;clear hK K;(try simp only[nP]);(refine bT 13 ax ae ?_;refine bT 14 ax ae ?_;refine bT 15 ax ae ?_;refine bT 16 ax ae ?_;refine bT 17 ax ae ?_;refine bT 18 ax ae ?_;refine bT 19 ax ae ?_;refine bT 20 ax ae ?_;refine bT 21 ax ae ?_;refine bT 22 ax ae ?_;refine bT 23 ax ae ?_;refine bT 24 ax ae ?_;refine bT 25 ax ae ?_;refine bT 26 ax ae ?_);(refine oZ ax (i:=27) λK hK=>?_;go_simp);refine(HIJ.out.2 _ Ha).mono ?_;rintro e w6 ⟨rfl,hx6⟩;have abr:=ay Ha hx6;have ae:=HS.out _ abr;refine hK.out _ _ (λ_=>ae) ?_;clear hK K;(try simp only[nP]);(refine bT 28 ax ae ?_);refine ow ax [29] [_] ?_;clear ax ae;go_wp2
   go_roundw
   case rel=>exact⟨i+1,HE.out.2,by go_num,ay HE.out.1 abr⟩
   case measure=>have:=HE.out.2;simp[intOf];omega
  .have h1:¬(((i:Nat):Int)<(F.length:Int)):=by omega
   go_wp2
   go_ret
   exact⟨rfl,TH⟩
end
section
open Go.RowKit
open bz (dC Nd Gm vl fq eu Same plus Canon iK)
variable {w:World} {v:Value} {Fs:List dC} {i:Nat}
def qY(w:World)(v:Value)(Fs:List dC):Prop:=∃xs:List Value,lS w v xs/\xs.length=Fs.length/\∀i (_:i<xs.length) (_:i<Fs.length),eX w 0 xs[i] Fs[i]
theorem qY.ext{w w':World}{v:Value}{Fs:List dC}(h:qY w v Fs)(hx:Ext w w'):qY w' v Fs:=by
 obtain⟨xs,h1,h2,h3⟩:=h;exact⟨xs,h1.ext hx,h2,λi a b=>(h3 i a b).ext hx⟩
theorem qY.open(h:qY w v Fs):∃a cap,v=.slice a Fs.length cap/\Fs.length<=1152921504606846976:=by
 obtain⟨xs,⟨a,cap,rfl,h1,h2,_⟩,h4,_⟩:=h;exact⟨a,cap,by rw[h4],by omega⟩
theorem qY.at_(h:qY w v Fs)(hi:i<Fs.length):∃b off cap a c,v=.slice (some ⟨b,off,none⟩) Fs.length cap/\w.cell? ⟨b,off+i,none⟩=some (.slice a (Fs[i]).length c)/\eX w 0 (.slice a (Fs[i]).length c) Fs[i]:=by
 obtain⟨xs,⟨a,cap,rfl,h1,h2,h3⟩,h4,h5⟩:=h;obtain⟨b,off,rfl,hc⟩:=h3 (by omega);have hn:=h5 i (by omega) hi;obtain⟨a',c',e⟩:=hn.slice;have hci:=hc i (by omega);rw[e]at hci hn;exact⟨b,off,cap,a',c',by rw[h4],hci,hn⟩
def uy(Fs:List dC):Gm:=Fs.foldl (λg F=>plus g (eu F)) (.mk [] [])
theorem Ay(hi:i<Fs.length):uy (Fs.take (i+1))=plus (uy (Fs.take i)) (eu Fs[i]):=by
 unfold uy;rw[bg hi,List.foldl_append];rfl
theorem QT{C S E F:dC}{g h:Gm}(hF:fu F g)(hC:fu C h)(hS:Same (eu S) (plus (eu F) (eu C)))(hE:fu E (eu S)):fu E (plus g h):=
 hE.to (hS.eqv.trans (bz.qc hF.eqv hC.eqv))
theorem Fw(w:World):Calls prog 61 #[] w λe w'=>∃vN,e=.returned (.agg #[vN])/\eX w' w.heap.size vN [([],[])]/\Ext w w':=by
 have hb1:((w.alloc (.cells #[.slice (some ⟨w.heap.size+1,0,none⟩) 1 1] 28)).alloc (.cells #[.slice none 0 0,.slice none 0 0] 89)).heap[w.heap.size]?=some (.cells #[.slice (some ⟨w.heap.size+1,0,none⟩) 1 1] 28 (0,0)):=by
  rw[Below.heap_alloc _ _ _ (by simp)];exact heap_alloc_new _ _
 have hb2:((w.alloc (.cells #[.slice (some ⟨w.heap.size+1,0,none⟩) 1 1] 28)).alloc (.cells #[.slice none 0 0,.slice none 0 0] 89)).heap[w.heap.size+1]?=some (.cells #[.slice none 0 0,.slice none 0 0] 89 (0,0)):=by
  have h:=heap_alloc_new (w.alloc (.cells #[.slice (some ⟨w.heap.size+1,0,none⟩) 1 1] 28)) (.cells #[.slice none 0 0,.slice none 0 0] 89);rw[fw]at h;exact h
 have hx:Ext w ((w.alloc (.cells #[.slice (some ⟨w.heap.size+1,0,none⟩) 1 1] 28)).alloc (.cells #[.slice none 0 0,.slice none 0 0] 89)):=by go_grown
 go_enter Tryz.func61,Tryz.ntmps61
 go_wp2
 (try simp only[Exit.inBlock,Exit.then]);refine bodyPost_ret (results_cell_row rfl _ _ w.heap.size 28 _ (0,0) _ rfl hb1 underlying28 rfl (by kernel_rfl)) rfl ?_;refine⟨_,rfl,⟨_,1,rfl,ai _,by unfold maxLen;simp,λ_=>⟨w.heap.size+1,rfl,by omega,λi hi=>?_⟩⟩,hx⟩;have hi0:i=0:=by simp at hi;omega
 subst hi0;refine⟨.slice none 0 0,.slice none 0 0,cell_of_row _ _ 0 _ _ _ hb2,cell_of_row _ _ 1 _ _ _ hb2,Ints.nil _ _ _,Ints.nil _ _ _,λb hb=>?_,λb hb=>?_⟩
 .simp[Value.ownBlock]at hb
 .simp[Value.ownBlock]at hb
def adw(P:dC->Prop)(w:World)(e:Ending)(w':World):Prop:=
 ∃(a:Option Addr) (n c:Nat) (ok:Bool),e=.returned (.tuple #[.agg #[.slice a n c],.bool ok])/\(ok=true->∃E,n=E.length/\P E/\gQ E=true/\eX w' 0 (.slice a n c) E)/\Ext w w'
set_option maxHeartbeats 4000000 in
theorem Gv(v:Value)(Fs:List dC)(w:World)(hv:qY w v Fs)(hF:∀F,F∈Fs->fq F/\gQ F=true):
 Calls prog 25 #[v] w (adw (λE=>fu E (uy Fs)) w):=by
 obtain⟨a,cap,rfl,xP⟩:=hv.open;have hb0:=heap_alloc_new w (.cells #[.slice none 0 0] 28);have hx0:Ext w (w.alloc (.cells #[.slice none 0 0] 28)):=by go_grown
 go_enter Tryz.func25,Tryz.ntmps25
 go_upto_region 1 with fail
 have hzW:(w.alloc (.cells #[.slice none 0 0] 28)).heap.size=w.heap.size+1:=fw _ _;have HZW:=aH hzW;clear hzW;generalize w.alloc (.cells #[.slice none 0 0] 28)=W at *;by_cases h12:(12:Int)<((Fs.length:Nat):Int)
 .have q1:=cell_of_row W w.heap.size 0 _ _ _ hb0
  have q2:=frozen_of_row W w.heap.size 0 _ _ hb0;have HB:=aH hb0;have HE:=aH hx0;clear hb0 hx0;go_wp2
  (try simp only[Exit.inBlock,Exit.then]);refine bodyPost_ret (dY rfl _ _ w.heap.size 28 _ (0,0) _ rfl (heap_setCell_same _ w.heap.size 0 _ _ (.slice none 0 0) HB.out) underlying28 rfl (by kernel_rfl) rfl) rfl ?_;exact⟨none,0,0,false,rfl,(λh=>by cases h),HE.out.setCell (p:=⟨w.heap.size,0,none⟩) (ai _) _⟩
 .go_upto_region 4 with(go_at_call 61;refine(Fw _).mono ?_;rintro e w1 ⟨vZ,rfl,hZ,hxz⟩;obtain⟨aZ,cZ,rfl⟩:=hZ.slice)
  have hx1:=ay hx0 hxz;have hb1:=(hxz.block _ (bG hb0)).trans hb0;have hxa:Ext w1 (w1.alloc (.cells #[.slice aZ 1 cZ] 28)):=by go_grown
  have hp:=heap_alloc_new w1 (.cells #[.slice aZ 1 cZ] 28);have hb2:=(hxa.block _ (bG hb1)).trans hb1;have hx2:=ay hx1 hxa;have hZ2:=hZ.ext hxa;rw[HZW.out]at hZ2;have hwp:w.heap.size<w1.heap.size:=bG hb1;have HV:=aH (And.intro hv hF);clear hb0 hx0 hb1 hx1 hxz hZ hxa hv;obtain⟨hZ0,-⟩:=id (And.intro Fb True.intro);generalize w1.alloc (.cells #[.slice aZ 1 cZ] 28)=W0 at *;generalize w1.heap.size=p4 at *;clear h12;have hF0:gQ [([],[])]=true:=by decide
  go_upto_region 5 with fail
  go_loopw [6,7,8,9,17] (λ_ _ _ _ ii wr=>∃(i:Nat) (E:dC) (aE:Option Addr) (cE:Nat),ii=.int .i64 ((i:Nat):Int)/\i<=Fs.length/\Ext w wr/\wr.heap[w.heap.size]?=some (.cells #[.slice none 0 0] 28 (0,0))/\wr.heap[p4]?=some (.cells #[.slice aE E.length cE] 28 (0,0))/\eX wr (w.heap.size+1) (.slice aE E.length cE) E/\Hid (fu E (uy (Fs.take i))/\gQ E=true)) (λ_ _ _ _ ii _=>Fs.length-(intOf ii).toNat)
  case atStart=>exact⟨0,[([],[])],aZ,cZ,by go_num,az _,hx2,hb2,hp,hZ2,aH ⟨hZ0,hF0⟩⟩
  case round=>
   clear hx2 hb2 hp hZ2 hZ0 hF0;obtain⟨i,E,aE,cE,rfl,hi,hx,hb,hp,hN,HE0⟩:=hrel;by_cases hlt:i<Fs.length
   .have hil:((i:Nat):Int)<((Fs.length:Nat):Int):=by omega
    obtain⟨bb,off,cap',aG,cG,e',hci,hG⟩:=(HV.out.1.ext hx).at_ hlt;simp only[Value.slice.injEq,true_and]at e';obtain⟨rfl,rfl⟩:=e';obtain⟨hIG,hfG⟩:=HV.out.2 _ (ah hlt);have dK:=aH hlt;obtain⟨G,eG⟩:∃G,G=Fs[i]'(dK.out):=⟨_,rfl⟩;rw[<-eG]at hci hG hIG hfG;have EG:=aH eG;clear eG hlt;go_upto_region 7 with fail
    have hxa:Ext wr (wr.alloc (.cells #[.slice aG G.length cG] 28)):=(by go_grown);have hg0:=heap_alloc_new wr (.cells #[.slice aG G.length cG] 28);have hx1:=ay hx hxa;have hb1:=(hxa.block _ (bG hb)).trans hb;have hp1:=(hxa.block _ (bG hp)).trans hp;have hN1:=hN.ext hxa;have hG1:=hG.ext hxa;clear hci hx hb hp hN hG hxa;generalize wr.alloc (.cells #[.slice aG G.length cG] 28)=V1 at *;generalize wr.heap.size=pg at *;have k0:=cell_of_row V1 pg 0 _ _ _ hg0;simp only[gE]at k0;go_upto_region 8 with(go_at_call 62;refine((Ba _ G _ hG1 hIG hfG).mono (λe w' h=>h.if_ (λE h=>h.1))).mono ?_;rintro e w2 ⟨aC,nC,cC,okC,rfl,hC,hx2⟩)
    have hxa:Ext w2 (w2.alloc (.cells #[.slice aC nC cC] 28)):=(by go_grown);have hgc:=heap_alloc_new w2 (.cells #[.slice aC nC cC] 28);have Ha:=ay hx2 hxa;have hxE:=ay hx1 Ha;have hb2:=(Ha.block _ (bG hb1)).trans hb1;have hp2:=(Ha.block _ (bG hp1)).trans hp1;have TC:=hN1.ext Ha;clear k0 hx1 hb1 hp1 hN1 hx2 Ha hG1 hg0;generalize w2.alloc (.cells #[.slice aC nC cC] 28)=V2 at *;cases okC with
    |false=>
     have q1:=cell_of_row V2 w.heap.size 0 _ _ _ hb2;have q2:=frozen_of_row V2 w.heap.size 0 _ _ hb2;have HB:=aH hb2;have HE:=aH hxE;clear hb2 hxE hp2 TC hgc hxa;go_wp2
     (try simp only[Exit.inBlock,Exit.then]);refine bodyPost_ret (dY rfl _ _ w.heap.size 28 _ (0,0) _ rfl (heap_setCell_same _ w.heap.size 0 _ _ (.slice none 0 0) HB.out) underlying28 rfl (by kernel_rfl) rfl) rfl ?_;exact⟨none,0,0,false,rfl,(λh=>by cases h),HE.out.setCell (p:=⟨w.heap.size,0,none⟩) (ai _) _⟩
    |true=>
     obtain⟨C,slC,rfl,hCf,Eb,hfC,ac6⟩:=hC rfl;have hNC:=((Gp hfC ac6).weaken (az _)).ext hxa;have k0:=cell_of_row V2 p4 0 _ _ _ hp2;have k1:=cell_of_row V2 w2.heap.size 0 _ _ _ hgc;simp only[gE]at k0 k1;have HCF:=aH hCf;clear ac6 hxa hC hCf;go_upto_region 11 with(go_at_call 63;refine(FJ _ _ E C _ (TC.weaken (az _)) hNC HE0.out.1.1 Eb HE0.out.2 hfC).mono ?_;rintro e w3 ⟨aS,nS,cS,okS,rfl,hSS,hx3⟩)
     have hxa:Ext w3 (w3.alloc (.cells #[.slice aS nS cS] 28)):=(by go_grown);have hgs:=heap_alloc_new w3 (.cells #[.slice aS nS cS] 28);have Ha:=ay hx3 hxa;have VU:=ay hxE Ha;have hb3:=(Ha.block _ (bG hb2)).trans hb2;have hp3:=(Ha.block _ (bG hp2)).trans hp2;clear k0 k1 hxE hb2 hp2 TC hNC hgc hx3 Ha;generalize w3.alloc (.cells #[.slice aS nS cS] 28)=V3 at *;cases okS with
     |false=>
      have q1:=cell_of_row V3 w.heap.size 0 _ _ _ hb3;have q2:=frozen_of_row V3 w.heap.size 0 _ _ hb3;have HB:=aH hb3;have HE:=aH VU;clear hb3 VU hp3 hgs hxa;go_wp2
      (try simp only[Exit.inBlock,Exit.then]);refine bodyPost_ret (dY rfl _ _ w.heap.size 28 _ (0,0) _ rfl (heap_setCell_same _ w.heap.size 0 _ _ (.slice none 0 0) HB.out) underlying28 rfl (by kernel_rfl) rfl) rfl ?_;exact⟨none,0,0,false,rfl,(λh=>by cases h),HE.out.setCell (p:=⟨w.heap.size,0,none⟩) (ai _) _⟩
     |true=>
      obtain⟨S,slS,rfl,hSf,hIS,hfS,ac4⟩:=hSS rfl;have hNS:=((Gp hfS ac4).weaken (az _)).ext hxa;have k1:=cell_of_row V3 w3.heap.size 0 _ _ _ hgs;simp only[gE]at k1;have HSF:=aH hSf;have hpz:=bG hp3;clear ac4 hxa hSS hSf;go_upto_region 14 with(go_at_call 62;refine((Ba _ S _ hNS hIS hfS).mono (λe w' h=>h.if_ (λE h=>h.1))).mono ?_;rintro e w4 ⟨aD,nD,cD,okD,rfl,hD,hx4⟩;have hp4:=(hx4.block _ (bG hp3)).trans hp3;have t1:=cell_of_row _ p4 0 _ _ _ hp4;have t2:=frozen_of_row _ p4 0 _ _ hp4)
      have hb4:=(hx4.block _ (bG hb3)).trans hb3;have hset:=heap_setCell_same w4 p4 0 _ _ (.slice aD nD cD) hp4;have hbs:(w4.setCell ⟨p4,0,none⟩ (.slice aD nD cD)).heap[w.heap.size]?=some (.cells #[.slice none 0 0] 28 (0,0)):=(by rw[heap_setCell_other _ _ _ _ (by show w.heap.size≠p4;omega)];exact hb4);have VT:=(ay VU hx4).setCell (p:=⟨p4,0,none⟩) (by show w.heap.size<=p4;omega) (.slice aD nD cD);clear k1 VU hb3 hp3 hNS hgs t1 t2 hp4;cases okD with
      |false=>
       generalize w4.setCell ⟨p4,0,none⟩ (.slice aD nD cD)=V4 at *;have q1:=cell_of_row V4 w.heap.size 0 _ _ _ hbs;have q2:=frozen_of_row V4 w.heap.size 0 _ _ hbs;have HB:=aH hbs;have HE:=aH VT;clear hbs VT hset;go_wp2
       (try simp only[Exit.inBlock,Exit.then]);refine bodyPost_ret (dY rfl _ _ w.heap.size 28 _ (0,0) _ rfl (heap_setCell_same _ w.heap.size 0 _ _ (.slice none 0 0) HB.out) underlying28 rfl (by kernel_rfl) rfl) rfl ?_;exact⟨none,0,0,false,rfl,(λh=>by cases h),HE.out.setCell (p:=⟨w.heap.size,0,none⟩) (ai _) _⟩
      |true=>
       obtain⟨D,slD,rfl,hDf,AZ,qV,ac5⟩:=hD rfl;have hND:=(Gp qV (ac5.xm (gI (p:=⟨p4,0,none⟩) (v:=.slice aD D.length cD)) (λb hb=>by subst hb;exact hpz))).weaken (show w.heap.size+1<=V3.heap.size by omega);have HND:=aH (And.intro hND (And.intro hset (And.intro hbs VT)));have Xr:=aH (And.intro hDf qV);clear ac5 hND hset hbs VT hD hDf qV;generalize w4.setCell ⟨p4,0,none⟩ (.slice aD D.length cD)=V4 at *;go_wp2
       go_roundw
       case rel=>exact⟨i+1,D,aD,cD,by go_num,dK.out,HND.out.2.2.2,HND.out.2.2.1,HND.out.2.1,HND.out.1,aH ⟨by rw[Ay dK.out,<-EG.out];exact QT HE0.out.1 HCF.out HSF.out Xr.out.1,Xr.out.2⟩⟩
       case measure=>have:=dK.out;simp[intOf];omega
   .have hil:¬(((i:Nat):Int)<((Fs.length:Nat):Int)):=by omega
    have hie:i=Fs.length:=(by omega);subst hie;have k0:=cell_of_row wr p4 0 _ _ _ hp;have q1:=cell_of_row wr w.heap.size 0 _ _ _ hb;have q2:=frozen_of_row wr w.heap.size 0 _ _ hb;simp only[gE]at k0 q1;have HB:=aH hb;have HE:=aH hx;have HN:=aH hN;clear hb hx hp hN;go_wp2
    (try simp only[Exit.inBlock,Exit.then]);refine bodyPost_ret (dY rfl _ _ w.heap.size 28 #[.slice aE E.length cE] (0,0) _ rfl (heap_setCell_same _ w.heap.size 0 _ _ (.slice aE E.length cE) HB.out) underlying28 rfl (by kernel_rfl) rfl) rfl ?_;refine⟨aE,E.length,cE,true,rfl,λ_=>⟨E,rfl,?_,HE0.out.2,(HN.out.set (p:=⟨w.heap.size,0,none⟩) (uh _) _).weaken (az _)⟩,HE.out.setCell (p:=⟨w.heap.size,0,none⟩) (ai _) _⟩;have:=HE0.out.1;rw[cO (ai _)]at this;exact this
end
section
open Go.RowKit
open bz (rZ GB qM)
variable {i:Nat} {v:Value}
theorem BX{xs:List Value}(h:(xs.drop (i*1)).take 1=[v]):xs[i]?=some v:=by
 have k:=take_at h (j:=0) (by omega);rw[jM]at k;exact k
theorem UB{a b:List ByteArray}(h:bd a=bd b):a=b:=by
 unfold bd at h;refine(List.map_inj_right (f:=bH) λx y e=>?_).1 h;cases x;cases y;simp only[bH]at e;rw[ByteArray.mk.injEq];exact Array.toList_inj.1 e
theorem Rows.brd{S:Nat->Prop}{w:World}{Ts:List rZ}(h:Rows ah2 1 S w v Ts)(hi:i<Ts.length):
 ∃b cap a c ss,v=.slice (some ⟨b,0,none⟩) Ts.length cap/\S b/\w.cell? ⟨b,i,none⟩=some (.slice a (List.length ss) c)/\bd ss=Ts[i]/\oP S (λW=>Strs W (.slice a (List.length ss) c) ss) w:=by
 obtain⟨xs,a,cap,rfl,h1,h2,h3,h4⟩:=h;obtain⟨b,rfl,hb,hc⟩:=h4 (by omega);obtain⟨a,c,ss,e,hN,hbd⟩:=h3.2.out i hi;refine⟨b,cap,a,c,ss,rfl,hb,by rw[hc _ (by omega)];exact BX e,hbd,h3.2.1,λw2 h2=>?_⟩;obtain⟨a',c',ss',e',hN',af8⟩:=h3.2.2 w2 h2 i hi;rw[e]at e';simp only[jU,Value.slice.injEq,and_true]at e';obtain⟨rfl,-,rfl⟩:=e';have:ss'=ss:=UB (af8.trans hbd.symm);subst this;exact hN'
end
section
open Go.RowKit
open bz (Stp mU qh)
variable {k:Nat}
theorem wy(hk:k<=3)(s:ByteArray)(hs:s.size<=12){a b c:UInt8}(hl:qh k=[c,a,b]):((Lib.trimS s.data.toList [a,b,c])== [])=iP ((k:Nat):Int) (bH s):=by
 rw[iW,beq_iff_eq,Oj,ic];constructor
 .intro h
  refine⟨k,rfl,hk,by rw[bN];exact hs,λx hx=>?_⟩;have:=h x hx;rw[hl];simp at this ⊢;rcases this with h|h|h
  .exact .inr (.inl h)
  .exact .inr (.inr h)
  .exact .inl h
 .rintro⟨m,e,_,_,h⟩ x hx
  obtain rfl:m=k:=by omega
  have:=h x hx;rw[hl]at this;simp at this ⊢;rcases this with h|h|h
  .exact .inr (.inr h)
  .exact .inl h
  .exact .inr (.inl h)
set_option maxHeartbeats 1000000 in
theorem DY(hk:k<=3)(s:ByteArray)(hs:s.size<=12)(w:World):Calls prog 53 #[.int .i64 ((k:Nat):Int),.string s] w λe w'=>e=.returned (.bool (iP ((k:Nat):Int) (bH s)))/\Ext w w':=by
 match k,hk with
 | 0,_=>
  have ha:∀(j:Nat) b,(⟨#[84,70,46]⟩:ByteArray).data.toList[j]?=some b->b.toNat<128:=by
   intro j b h;have:=dU h;simp at this;rcases this with rfl|rfl|rfl <;> decide
  have hsz2:(⟨#[84,70,46]⟩:ByteArray).size<4294967281:=by decide
  have hsz1:s.size<=9223372036854775807:=by omega
  have hmm:=wy (k:=0) (by decide) s hs (a:=84) (b:=70) (c:=46) rfl;have hle:¬((12:Int)<((s.size:Nat):Int)):=by omega
  have DR:=aH hmm;clear hmm;go_enter Tryz.func53,Tryz.ntmps53
  go_wp2_with (go_at_call 81;refine(Tryz.strings_Trim_laid s ⟨#[84,70,46]⟩ _ yO hsz1 hsz2 ha).mono ?_;rintro e w1 ⟨rfl,hx1⟩)
  go_ret
  refine⟨jq ?_,hx1⟩;have:=DR.out;rw[<-this];cases Lib.trimS s.data.toList [84,70,46] <;> rfl
 | 1,_=>
  have ha:∀(j:Nat) b,(⟨#[76,82,46]⟩:ByteArray).data.toList[j]?=some b->b.toNat<128:=by
   intro j b h;have:=dU h;simp at this;rcases this with rfl|rfl|rfl <;> decide
  have hsz2:(⟨#[76,82,46]⟩:ByteArray).size<4294967281:=by decide
  have hsz1:s.size<=9223372036854775807:=by omega
  have hmm:=wy (k:=1) (by decide) s hs (a:=76) (b:=82) (c:=46) rfl;have hle:¬((12:Int)<((s.size:Nat):Int)):=by omega
  have DR:=aH hmm;clear hmm;go_enter Tryz.func53,Tryz.ntmps53
  go_wp2_with (go_at_call 81;refine(Tryz.strings_Trim_laid s ⟨#[76,82,46]⟩ _ yO hsz1 hsz2 ha).mono ?_;rintro e w1 ⟨rfl,hx1⟩)
  go_ret
  refine⟨jq ?_,hx1⟩;have:=DR.out;rw[<-this];cases Lib.trimS s.data.toList [76,82,46] <;> rfl
 | 2,_=>
  have ha:∀(j:Nat) b,(⟨#[76,82,46]⟩:ByteArray).data.toList[j]?=some b->b.toNat<128:=by
   intro j b h;have:=dU h;simp at this;rcases this with rfl|rfl|rfl <;> decide
  have hsz2:(⟨#[76,82,46]⟩:ByteArray).size<4294967281:=by decide
  have hsz1:s.size<=9223372036854775807:=by omega
  have hmm:=wy (k:=2) (by decide) s hs (a:=76) (b:=82) (c:=46) rfl;have hle:¬((12:Int)<((s.size:Nat):Int)):=by omega
  have DR:=aH hmm;clear hmm;go_enter Tryz.func53,Tryz.ntmps53
  go_wp2_with (go_at_call 81;refine(Tryz.strings_Trim_laid s ⟨#[76,82,46]⟩ _ yO hsz1 hsz2 ha).mono ?_;rintro e w1 ⟨rfl,hx1⟩)
  go_ret
  refine⟨jq ?_,hx1⟩;have:=DR.out;rw[<-this];cases Lib.trimS s.data.toList [76,82,46] <;> rfl
 | 3,_=>
  have ha:∀(j:Nat) b,(⟨#[76,82,46]⟩:ByteArray).data.toList[j]?=some b->b.toNat<128:=by
   intro j b h;have:=dU h;simp at this;rcases this with rfl|rfl|rfl <;> decide
  have hsz2:(⟨#[76,82,46]⟩:ByteArray).size<4294967281:=by decide
  have hsz1:s.size<=9223372036854775807:=by omega
  have hmm:=wy (k:=3) (by decide) s hs (a:=76) (b:=82) (c:=46) rfl;have hle:¬((12:Int)<((s.size:Nat):Int)):=by omega
  have DR:=aH hmm;clear hmm;go_enter Tryz.func53,Tryz.ntmps53
  go_wp2_with (go_at_call 81;refine(Tryz.strings_Trim_laid s ⟨#[76,82,46]⟩ _ yO hsz1 hsz2 ha).mono ?_;rintro e w1 ⟨rfl,hx1⟩)
  go_ret
  refine⟨jq ?_,hx1⟩;have:=DR.out;rw[<-this];cases Lib.trimS s.data.toList [76,82,46] <;> rfl
set_option maxHeartbeats 1000000 in
theorem mo(kind:Int)(s:ByteArray)(w:World):Calls prog 53 #[.int .i64 kind,.string s] w λe w'=>e=.returned (.bool (iP kind (bH s)))/\Ext w w':=by
 by_cases hk:0<=kind/\kind<=3
 .by_cases hs:s.size<=12
  .obtain⟨k,rfl⟩:∃k:Nat,kind=k:=⟨kind.toNat,by omega⟩
   exact DY (by omega) s hs w
  .have hno:iP kind (bH s)=false:=jm.2 λk=>by
    obtain⟨m,_,_,h,_⟩:=ic.1 k;rw[bN]at h;omega
   rw[hno];have h1:¬kind<0:=(by omega);have h2:¬(3:Int)<kind:=(by omega);have hle:(12:Int)<((s.size:Nat):Int):=(by omega);clear hno hk hs;go_enter Tryz.func53,Tryz.ntmps53
   go_wp2
   go_ret
   exact⟨rfl,Below.refl _ _⟩
 .have hno:iP kind (bH s)=false:=jm.2 λk=>by
   obtain⟨m,h1,h2,_,_⟩:=ic.1 k;omega
  rw[hno];clear hno;by_cases h0:kind<0
  .clear hk
   go_enter Tryz.func53,Tryz.ntmps53
   go_wp2
   go_ret
   exact⟨rfl,Below.refl _ _⟩
  .have h2:(3:Int)<kind:=by omega
   clear hk;go_enter Tryz.func53,Tryz.ntmps53
   go_wp2
   go_ret
   exact⟨rfl,Below.refl _ _⟩
end
section
open Go.RowKit
open bz (rZ GB qM fr plc FN VH VI can VL YD)
theorem QV(w:World)(xs:List ByteArray)(h:xs.length<=1152921504606846976){n:Nat}(hn:n=xs.length):Strs (w.alloc (.cells (xs.map Value.string).toArray 9)) (.slice (some ⟨w.heap.size,0,none⟩) n n) xs:=by
 subst hn;refine⟨_,xs.length,by rw[aJ],by simp,by simpa using h,λh0=>⟨w.heap.size,0,rfl,λi hi=>?_⟩⟩;rw[gK,cell_of_row _ w.heap.size i _ _ (0,0) (heap_alloc_new w _)];simp at hi ⊢
end
section
open Go.RowKit
open bz (dC Nd)
theorem Rows.ZO{S:Nat->Prop}{w:World}{v:Value}{Fs:List dC}(h:Rows pK 1 S w v Fs)(hb:Fs.length<=1000):qY w v Fs:=by
 obtain⟨xs,a,cap,rfl,h1,h2,h3,h4⟩:=h;have hl:xs.length=Fs.length:=by have:=h3.1;omega
 refine⟨xs,⟨a,cap,by rw[hl],by omega,by omega,λh0=>?_⟩,hl,λi hi hi'=>?_⟩
 .obtain⟨b,rfl,_,hc⟩:=h4 (by omega)
  exact⟨b,0,rfl,λi hi=>by rw[gK,hc i (by omega),aa hi]⟩
 .obtain⟨aN,cN,e,hN⟩:=h3.2.out i hi'
  have:=BX e;rw[aa hi]at this;injection this with this;rw[this];exact hN
end
end Go.Proofs.YteknjeohbcgpdaaGreatDoor