/- 24 -/
import Derived.Test.YtplgooajigigkaaGreatDoorQ15
import Derived.Test.YtplgooajigigkaaGreatDoorQ16
import Derived.Test.YtplgooajigigkaaGreatDoorQ23
set_option maxRecDepth 100000
set_option maxHeartbeats 4000000
namespace Go.Proofs.YtplgooajigigkaaGreatDoor
open Tryz
section
open Go.RowKit
variable {e k base g n cap:Nat} {w:World} {l z:List Int}
theorem wy(w:World)(g:Nat)(f:Array Value->Array Value){cur:Array Value}{e:TypeId}{fr:Nat × Nat}(h:w.heap[g]?=some (.cells cur e fr)):(Go.Sort.mapBlock w g f).heap[g]?=some (.cells (f cur) e fr):=by
 simp[Go.Sort.mapBlock,Array.getElem?_modify,h,Go.Sort.onCells]
theorem uG(w:World)(g k:Nat)(f:Array Value->Array Value)(h:k≠g):(Go.Sort.mapBlock w g f).heap[k]?=w.heap[k]?:=by
 simp[Go.Sort.mapBlock,Array.getElem?_modify,Ne.symm h]
theorem vO(w:World)(os:Array Obj)(h:k<w.heap.size):(Go.Sort.grow w os).heap[k]?=w.heap[k]?:=by
 simp[Go.Sort.grow,Array.getElem?_append_left h]
theorem EW{l':List Int}(h:w.ownsRow base e 1 (.slice (some ⟨g,0,none⟩) n cap) n (l.map (Value.int .i64)))(hl:l'.length=l.length)(m:Nat)(os:Array Obj):
 (Go.Sort.grow (Go.Sort.putRow (Value.int .i64) (Go.Sort.ahead w m) g 0 l'.toArray) os).ownsRow base e 1 (.slice (some ⟨g,0,none⟩) n cap) n (l'.map (Value.int .i64))/\dW (λb=>b=g) w (Go.Sort.grow (Go.Sort.putRow (Value.int .i64) (Go.Sort.ahead w m) g 0 l'.toArray) os):=by
 obtain⟨hlen,h⟩:=h;rw[bH]at hlen;have hgl:g<w.heap.size:=by
  rcases h with⟨h,_⟩|⟨g',cap',cur,h1,h2,h3,_⟩
  .simp at h
  .simp only[gz,bN,Addr.mk.injEq,and_true,true_and]at h1
   obtain⟨rfl,rfl⟩:=h1;exact bq h3
 have hsz:(Go.Sort.putRow (Value.int .i64) (Go.Sort.ahead w m) g 0 l'.toArray).heap.size=w.heap.size:=by rw[Go.Sort.size_putRow];rfl
 refine⟨⟨by rw[bH];omega,?_⟩,rfl,rfl,rfl,by simp[Go.Sort.grow,hsz],λk hk hn=>?_⟩
 .rcases h with⟨h,_⟩|⟨g',cap',cur,h1,h2,h3,h4,h5,h6,h7⟩
  .simp at h
  .simp only[gz,bN,Addr.mk.injEq,and_true,true_and]at h1
   obtain⟨rfl,rfl⟩:=h1;refine .inr ⟨g,cap,Go.Sort.putCells (Value.int .i64) 0 l'.toArray cur,rfl,h2,?_,h4,h5,by simp[Go.Sort.putCells,h6],?_⟩
   .rw[vO _ _ (by rw[hsz];exact hgl)]
    exact wy _ _ _ h3
   .apply qQ
    intro i;rw[kK];by_cases c:i<n*1
    .rw[if_pos c,ik]
     have hc:i<cur.size:=(by rw[h6];have:=kV 1 h4;omega);have hi:i<l'.length:=(by omega);rw[bO,ae hi];simp only[Go.Sort.putCells,Array.getElem?_mapIdx,mV hc,eT];rw[if_pos (by simp;omega)];simp[hi]
    .rw[if_neg c,ic (by rw[bH];omega)]
 .rw[vO _ _ (by rw[hsz];exact hk)]
  exact uG (Go.Sort.ahead w m) g k _ hn
theorem yU(h:w.ownsRow base e 1 (.slice (some ⟨g,0,none⟩) n cap) n (l.map (Value.int .i64))):Go.Sort.Holds (Value.int .i64) w g 0 l.toArray:=by
 intro j hj;have hl:=h.1;rw[bH]at hl;have hj':j<l.length:=by simpa using hj
 rw[gQ];refine⟨?_,h.frozenAt j⟩;rw[Sa h (by omega),kW hj'];simp[hj']
theorem Bl(h:w.ownsRow base e 1 (.slice (some ⟨g,0,none⟩) n cap) n (l.map (Value.int .i64)))(hk:k<=n):w.ownsRow base e 1 (.slice (some ⟨g,0,none⟩) k cap) k ((l.take k).map (Value.int .i64)):=by
 obtain⟨hlen,h⟩:=h;rw[bH]at hlen;refine⟨by rw[bH,gZ];omega,?_⟩;rcases h with⟨h,_⟩|⟨g',cap',cur,h1,h2,h3,h4,h5,h6,h7⟩
 .simp at h
 .simp only[gz,bN,Addr.mk.injEq,and_true,true_and]at h1
  obtain⟨rfl,rfl⟩:=h1;refine .inr ⟨g,cap,cur,rfl,h2,h3,by omega,h5,h6,?_⟩;rw[List.map_take,<-h7,List.take_take];congr 1;omega
def zk(l:List Int):List Int:=Lib.compact (l.mergeSort λx y=>decide (x<=y))
def Vg(l:List Int)(w:World)(e:Ending)(w':World):Prop:=∃v',e=.returned v'/\w'.ownsRow w.heap.size 3 1 v' (zk l).length ((zk l).map (Value.int .i64))/\Ext w w'
theorem FK(v:Value)(l:List Int)(w:World)(h:Ints w v l)(hl:l.length<=1000000000):Calls prog 172 #[v] w (Vg l w):=by
 obtain⟨a,cap,rfl,hlc,hcap,hc⟩:=id h;rcases pM l.length with hz|hz
 .have hln:l=[]:=cz hz
  subst hln;have hd:zk []=[]:=by simp[zk,Lib.compact,Lib.compactUpTo]
  cases a with
  |none=>
   go_enter Tryz.func172,Tryz.ntmps172
   go_wp2_with (first
    |(go_at_call 204;refine(Tryz.slices_Clone_int_nil _ _ _).mono ?_;rintro e w1 ⟨rfl,rfl⟩)
    |(go_at_call 202;refine(Tryz.slices_Sort_int_none _ _ _).mono ?_;rintro e w1 ⟨rfl,hw1⟩)
    |(go_at_call 205;refine(Tryz.slices_Compact_int_empty _ _ _).mono ?_;rintro e w1 ⟨rfl,rfl⟩))
   go_ret
   exact⟨_,rfl,by rw[hd];exact⟨by simp,.inl ⟨rfl,rfl⟩⟩,fJ _ _⟩
  |some ad=>
   go_enter Tryz.func172,Tryz.ntmps172
   go_wp2_with (first
    |(go_at_call 204;refine(Tryz.slices_Clone_int_zero _ _ _).mono ?_;rintro e w1 ⟨v1,rfl,ho1,-,hx1⟩;obtain⟨a1,c1,rfl,-⟩:=bu ho1)
    |(go_at_call 202;refine(Tryz.slices_Sort_int_none _ _ _).mono ?_;rintro e w2 ⟨rfl,hw2⟩;subst hw2)
    |(go_at_call 205;refine(Tryz.slices_Compact_int_empty _ _ _).mono ?_;rintro e w3 ⟨rfl,hw3⟩;subst hw3))
   go_ret
   exact⟨_,rfl,by rw[hd];exact ho1,hx1⟩
 .obtain⟨b,off,rfl,hcell⟩:=hc hz
  have hg:∀j,j<l.length->w.cell? ⟨b,off+j,none⟩=some (.int .i64 (l.getD j 0)):=λj hj=>by rw[hcell j hj];simp[dD]
  go_enter Tryz.func172,Tryz.ntmps172
  go_upto_region 2 with(go_at_call 204;refine(Tryz.slices_Clone_int b off l.length _ l _ (ax _) (by omega) hg).mono ?_;rintro e w1 ⟨v1,rfl,ho1,-,hx1⟩)
  rw[dH (ax _)]at ho1;obtain⟨g,c1,rfl,hc1,amS,-⟩:=gY ho1 hz;have hgl:=ho1.lt g rfl;have hms:(l.mergeSort λx y=>decide (x<=y)).length=l.length:=List.length_mergeSort _;go_upto_region 3 with(go_at_call 202;refine(Tryz.slices_Sort_int g 0 _ l _ (yU ho1) hgl.2 (by omega)).mono ?_;rintro e w2 ⟨rfl,m2,os2,hw2⟩)
  obtain⟨ho2,hk2⟩:=EW ho1 hms m2 os2;rw[<-hw2]at ho2 hk2 ⊢;clear hw2;generalize acL:(l.mergeSort λx y=>decide (x<=y))=ms at *;have hcl:(Lib.compact ms).length<=l.length:=by
   rw[<-hms];unfold Lib.compact Lib.compactUpTo;rw[bH];exact df (List.length_filter_le _ _) (by simp)
  have hC:=Tryz.slices_Compact_int g 0 c1 ms w2 (yU ho2) (by rw[hms];omega) (by rw[hms];exact hc1);rw[hms]at hC;have HMS:=aI hms;have HD:=aI acL;clear hms acL;go_wp2_with (go_at_call 205;refine hC.mono ?_;rintro e w3 ⟨rfl,q3,hw3⟩)
  go_ret
  rw[<-hw3];have hl3:(Lib.compact ms++List.replicate (l.length-(Lib.compact ms).length) 0).length=l.length:=by
   rw[aK,List.length_replicate];omega
  obtain⟨ho3,hk3⟩:=EW ho2 (hl3.trans HMS.out.symm) q3 #[];have e3:Go.Sort.grow (Go.Sort.putRow (Value.int .i64) (Go.Sort.ahead w2 q3) g 0 (Lib.compact ms++List.replicate (l.length-(Lib.compact ms).length) 0).toArray) #[]=w3:=by rw[Go.Sort.grow_empty,hw3]
  rw[e3]at ho3 hk3;have hdz:zk l=Lib.compact ms:=by unfold zk;rw[HD.out]
  refine⟨_,rfl,?_,⟨hk3.os.trans (hk2.os.trans hx1.os),hk3.tape.trans (hk2.tape.trans hx1.tape),hk3.output.trans (hk2.output.trans hx1.output),df hx1.size (df hk2.size hk3.size),λk hk=>?_⟩⟩
  .have:=Bl ho3 (k:=(Lib.compact ms).length) hcl
   rw[List.take_left]at this;rw[hdz];exact this
  .have z1:=hx1.size
   rw[hk3.block k (by have:=hk2.size;omega) (by omega),hk2.block k (by omega) (by omega)];exact hx1.block k hk
theorem Jn(h:z.Pairwise (·<=·)):(Lib.compact z).Pairwise (· < ·):=by
 unfold Lib.compact Lib.compactUpTo;rw[gP];have hr:((List.range z.length).filter (Lib.keeps z.toArray)).Pairwise (· < ·):=List.pairwise_lt_range.filter _;refine fu (λ{i j} hi hj hij=>?_) hr;simp only[iY,dJ,Lib.keeps,decide_eq_true_eq]at hi hj;rcases hj.2 with h0|h0
 .omega
 .have e1:z.toArray[j]! = z[j]:=by simp[hj.1]
  have e2:z.toArray[j-1]! = z[j-1]'(by omega):=by simp[show j-1<z.length by omega]
  have e3:z.toArray[i]! = z[i]:=by simp[hi.1]
  rw[e1,e2]at h0;rw[e1,e3];have a:z[i]<=z[j-1]'(by omega):=by
   by_cases c:i=j-1
   .subst c;exact Int.le_refl _
   .exact bP.1 h i (j-1) hi.1 (by omega) (by omega)
  have b:=bP.1 h (j-1) j (by omega) hj.1 (by omega);omega
theorem Jm{x:Int}:x∈Lib.compact z↔x∈z:=by
 have key:∀i (h:i<z.length),z[i]∈Lib.compact z:=by
  intro i
  induction i with
  |zero=>
   intro h;refine ay.2 ⟨0,iY.2 ⟨dJ.2 h,by simp[Lib.keeps]⟩,by simp[h]⟩
  |succ i ih=>
   intro h;by_cases c:z[i+1]=z[i]
   .rw[c];exact ih (by omega)
   .refine ay.2 ⟨i+1,iY.2 ⟨dJ.2 h,?_⟩,by simp[h]⟩
    simp only[Lib.keeps,decide_eq_true_eq,jE];right;have e1:z.toArray[i+1]! = z[i+1]:=(by simp[h]);have e2:z.toArray[i]! = z[i]:=(by simp[show i<z.length by omega]);rw[e1,e2];exact c
 constructor
 .intro h
  obtain⟨i,hi,rfl⟩:=ay.1 h;simp only[iY,dJ]at hi;have:z.toArray[i]! = z[i]:=by simp[hi.1]
  rw[this];exact aj _
 .intro h
  obtain⟨i,hi,rfl⟩:=aH.1 h;exact key i hi
theorem TP(l:List Nat):zk (bV l)=bV (aS l):=by
 have hs:((bV l).mergeSort λx y=>decide (x<=y)).Pairwise (·<=·):=by
  have:=List.pairwise_mergeSort (le:=λx y:Int=>decide (x<=y)) (λa b c h1 h2=>by simp at *;omega) (λa b=>by simp;omega) (bV l);exact this.imp (λh=>by simpa using h)
 have ha:=Jn hs;have hm:∀x,x∈zk (bV l)↔x∈bV l:=λx=>by unfold zk;rw[Jm,List.mem_mergeSort]
 have hnn:∀x,x∈zk (bV l)->∃n:Nat,x=(n:Int):=λx hx=>by obtain⟨n,_,e⟩:=mo ((hm x).1 hx);exact⟨n,e⟩
 have e1:zk (bV l)=bV ((zk (bV l)).map Int.toNat):=by
  unfold bV;rw[eP]
  conv=>lhs;rw[<-o6 (zk _)]
  refine bE λx hx=>?_
  obtain⟨n,rfl⟩:=hnn x hx;rfl
 rw[e1];congr 1;refine aZ.tC ?_ (iP l) (λx=>?_)
 .unfold aZ.Asc
  rw[gP];refine fu (λ{a b} ha hb h=>?_) ha;obtain⟨n,rfl⟩:=hnn a ha;obtain⟨m,rfl⟩:=hnn b hb;simp;omega
 .rw[bU]
  constructor
  .intro h
   obtain⟨y,hy,rfl⟩:=ay.1 h;obtain⟨n,hn,rfl⟩:=mo ((hm y).1 hy)
   simpa using hn
  .intro h
   exact ay.2 ⟨(x:Int),(hm _).2 (sD.2 h),by simp⟩
end
section
open Go.RowKit
open aZ (cZ Nd vl Same)
variable {D:cZ} {Fs:List cZ} {ls:List Nat}
def UN(Ls Rs:List cZ)(w:World)(e:Ending)(w':World):Prop:=
 ∃vN F',e=.returned (.agg #[vN])/\eZ w' w.heap.size vN F'/\aZ.eD F'/\Same (aZ.eQ F') (.mk (Ls.map aZ.eQ) (Rs.map aZ.eQ))/\F'.length<=sizes Ls+sizes Rs+1/\Ext w w'
def F4(D:cZ)(Fs:List cZ)(ls:List Nat):Prop:=∀j (h:j<ls.length),ls[j]<D.length/\Same (vl D ls[j]) (aZ.eQ (Fs.getD j []))
theorem F4.more{D':cZ}(h:F4 D Fs ls)(g:aZ.WF D)(g':aZ.WF D')(hm:∃E,D'=D++E):F4 D' Fs ls:=by
 obtain⟨E,rfl⟩:=hm;intro j hj;obtain⟨a,b⟩:=h j hj;exact⟨by simp;omega,by rw[aZ.gV g g' _ a];exact b⟩
theorem F4.snoc{i:Nat}(h:F4 D Fs ls)(hi:i<D.length)(hs:Same (vl D i) (aZ.eQ (Fs.getD ls.length []))):F4 D Fs (ls++[i]):=
 uw (P:=λa j=>a<D.length/\Same (vl D a) (aZ.eQ (Fs.getD j []))) h ⟨hi,hs⟩
theorem BH(va vb:Value)(Ls Rs:List cZ)(w:World)(ha:Forms w va Ls)(hb:Forms w vb Rs)(gL:∀F,F∈Ls->aZ.Good F/\0<F.length)(gR:∀F,F∈Rs->aZ.Good F/\0<F.length)(Xh:Ls.length<=1000000)(hlR:Rs.length<=1000000)(hroom:sizes Ls+sizes Rs+1<=1000000):
 Calls prog 95 #[va,vb] w (UN Ls Rs w):=by
 obtain⟨i0,hi0,hz0,hz1,hz2⟩:=info_parts fB;obtain⟨aA,Js,rfl,-⟩:=id ha;obtain⟨aB,Jr,rfl,-⟩:=id hb;go_enter Tryz.func95,Tryz.ntmps95
 go_wp2
 obtain⟨we,Np⟩:=eu ((w.alloc (.cells #[.slice none 0 0] 30)).alloc (.cells #[.slice none 0 0,.slice none 0 0] 109));have Vr:we.heap.size=w.heap.size+2:=by rw[Np];simp
 have hb0:we.heap[w.heap.size]?=some (.cells #[.slice none 0 0] 30 (0,0)):=by
  rw[Np,gI _ _ _ (by simp)];exact dV _ _
 have hb1:we.heap[w.heap.size+1]?=some (.cells #[.slice none 0 0,.slice none 0 0] 109 (0,0)):=by
  rw[Np];have h:=dV (w.alloc (.cells #[.slice none 0 0] 30)) (.cells #[.slice none 0 0,.slice none 0 0] 109);rw[eX]at h;exact h
 have hxe:Ext w we:=by rw[Np];go_grown
 have Gd:=xm hb1;have hB:oF w we (w.heap.size+1) (.slice none 0 0) (.slice none 0 0) []:=⟨Gd,λb hb=>by
  rcases hb with h|h|h
  .omega
  .simp[Value.ownBlock]at h
  .simp[Value.ownBlock]at h,hxe⟩
 have hsd:∀b,b<w.heap.size+1->Beside we (w.heap.size+1) (.slice none 0 0) (.slice none 0 0) [] b:=λb hb=>⟨λk=>by
  rcases k with h|h|h
  .omega
  .simp[Value.ownBlock]at h
  .simp[Value.ownBlock]at h,λ⟨i,g,cap,v,hi,_⟩=>by simp at hi⟩
 rw[<-Np];have Sn:w.heap.size+1+1=we.heap.size:=by omega
 rw[Sn];have hxa:Ext we ((we.alloc (.cells #[] 3)).alloc (.cells #[] 3)):=by go_grown
 have hzl:w.heap.size+1<we.heap.size:=by omega
 clear Np Vr Sn
 go_loopw [6,8] (λlv ii wr=>∃k vn vb D ls,k<=Ls.length/\ii=.int .i64 ((k:Nat):Int)/\ls.length=k/\wr.ownsRow we.heap.size 3 1 lv k ((bV ls).map (Value.int .i64))/\dK wr (w.heap.size+1) vn vb D/\iX we wr (w.heap.size+1) (.slice none 0 0) (.slice none 0 0) [] vn vb D/\D.length<=sizes (Ls.take k)/\
  (∀b,lv.ownBlock=some b->we.heap.size<=b/\Beside wr (w.heap.size+1) vn vb D b)/\wr.heap[w.heap.size]?=some (.cells #[.slice none 0 0] 30 (0,0))/\Beside wr (w.heap.size+1) vn vb D w.heap.size/\
  wr.ownsRow we.heap.size 3 1 (.slice (some ⟨we.heap.size+1,0,none⟩) 0 0) 0 []/\Beside wr (w.heap.size+1) vn vb D (we.heap.size+1)/\lv.ownBlock≠some (we.heap.size+1)/\Hid (F4 D Ls ls)) (λ_ ii _=>Ls.length-(intOf ii).toNat)
 case atStart=>
  refine⟨0,_,_,[],[],az _,rfl,rfl,(gG we _ (ax _) _).alloc _,Gd.ext hxa,iX.ext Gd hxa,az _,λb hb=>?_,?_,(hsd _ (by omega)).Nw Gd hxa,lF we _ _ (ax _) _,(Beside.new Gd (by omega)).Nw Gd hxa,by simp[Value.ownBlock],λj h=>absurd h (by simp)⟩
  .simp[Value.ownBlock]at hb;subst hb
   exact⟨ax _,(Beside.new Gd (b:=we.heap.size) (ax _)).Nw Gd hxa⟩
  .rw[hxa.block _ (by omega)];exact hb0
 case round=>
  obtain⟨k,o7,vb1,D1,ls,hk,rfl,hal,hown,hB1,hG1,hD1,yl,hres,hrb,hr0,hrr,hne,HA⟩:=hrel;have JK:=hB.go hB1 hG1;by_cases hlt:k<Ls.length
  .have h1:((k:Nat):Int)<(Ls.length:Int):=by omega
   obtain⟨bA,cA,aN,cN,he,hcA,hcell,hN⟩:=ha.at hlt;simp only[gz]at he;obtain⟨rfl,-,rfl⟩:=he;have cc:=dP JK.ext hcell;obtain⟨g1,g2⟩:=gL _ (aj hlt);obtain⟨aL,cL,rfl,hcL,_⟩:=bu hown;have hrm:D1.length+(Ls[k]).length<=1000000:=(by have:=rR hlt;have:=GQ Ls (k+1);omega);have HT:=aI (rR hlt)
   go_wp2_with (first
    |(go_at_call 112;refine(G8 _ o7 vb1 D1 _ Ls[k] w _ JK hN g1 g2 hrm).mono ?_;rintro e w3 ⟨F8,qK,D2,i2,rfl,hB3,gU,hD3,hi3,Eg⟩
      have hown3:=aV hown gU.keep (λb hb=>(yl b hb).2.ins);have hG3:=hG1.trans gU;have YI:=hG3.keep.size;have hx4:Ext w3 (w3.alloc (.cells #[.int .i64 ((i2:Nat):Int)] 3)):=by go_grown)
    |(at_builtin;refine dm rfl (.tmp 20) (.tmp 27) 41 rfl we.heap.size 3 i0 (.int .i64 0) 1 8 underlying41 hi0 hz0 hz1 hz2 rfl (by decide) (.slice aL k cL) k ((bV ls).map (Value.int .i64)) rfl (bW hown3 hx4) _ 1 _ [.int .i64 ((i2:Nat):Int)] rfl rfl (.inr ⟨_,rfl,dA (bY _ _ _)⟩) one_cell (by unfold maxLen;omega) (by omega) (by rw[eX];omega) ?_;intro v5 w5 ji hg5 hl5))
   have rC:∀b,Value.ownBlock (.slice aL k cL)=some b->we.heap.size<=b/\Beside w3 (w.heap.size+1) F8 qK D2 b:=λb hb=>⟨(yl b hb).1,(yl b hb).2.go (hown.lt b hb).2 gU⟩
   obtain⟨XI,Gc,yh,hside⟩:=Beside.row hG3 hB3 rC hx4 hg5 hl5;have oH:w3.heap[w.heap.size]?=some (.cells #[.slice none 0 0] 30 (0,0)):=(by rw[gU.keep.block _ (bq hres) hrb.ins];exact hres);have Ed:w5.heap[w.heap.size]?=some (.cells #[.slice none 0 0] 30 (0,0)):=by
    rw[hg5.block _ (by rw[eX];have:=bq oH;omega) (λe=>by have:=(rC _ e.symm).1;omega),hx4.block _ (bq oH)];exact oH
   have Pg:=hside _ (hrb.go (bq hres) gU);have af5:=(hr0.lt (we.heap.size+1) rfl).2;have hr3:=aV hr0 gU.keep (λb hb=>by simp[Value.ownBlock]at hb;subst hb;exact hrr.ins);have ajB:=(hr3.lt (we.heap.size+1) rfl).2;have hk5:dW (λb=>Value.ownBlock (.slice aL k cL)=some b) (w3.alloc (.cells #[.int .i64 ((i2:Nat):Int)] 3)) w5:=⟨hg5.os,hg5.tape,hg5.output,hg5.size,λk hk hn=>hg5.block k hk (λe=>hn e.symm)⟩;have WY:=aV (bW hr3 hx4) hk5 (λb hb e=>by simp[Value.ownBlock]at hb;subst hb;exact hne e);have af3:=hside _ (hrr.go af5 gU);have hne5:v5.ownBlock≠some (we.heap.size+1):=by
    rcases hl5 with h|⟨g,h,h2⟩
    .rw[h];exact hne
    .rw[h];intro e;injection e with e;rw[eX]at h2;omega
   have htk:=(HA.out.more hB1.good.wf hB3.good.wf gU.more).snoc hi3 (by rw[hal,aO,ae hlt];exact Eg);go_roundw
   case rel=>exact⟨k+1,F8,qK,D2,ls++[i2],by omega,by go_num,by rw[aK,hal];rfl,by simpa [bV]using ji,XI,Gc,by have:=HT.out;omega,yh,Ed,Pg,WY,af3,hne5,htk⟩
   case measure=>simp[intOf];omega
  .have hke:k=Ls.length:=by omega
   have h1:¬(((k:Nat):Int)<(Ls.length:Int)):=(by omega);obtain⟨aL,cL,rfl,hcL,amQ⟩:=bu hown;rw[hke,dH (ax _)]at hD1;have hsb:∀b,Value.ownBlock (.slice aL k cL)=some b->Value.ownBlock (.slice (some ⟨we.heap.size+1,0,none⟩) 0 0)≠some b:=λb hb e=>hne (by rw[hb,<-e];rfl)
   have Cb:∀b,Value.ownBlock (.slice (some ⟨we.heap.size+1,0,none⟩) 0 0)=some b->we.heap.size<=b/\Beside wr (w.heap.size+1) o7 vb1 D1 b:=λb hb=>by
    simp[Value.ownBlock]at hb;subst hb;exact⟨by omega,hrr⟩
   have Mr:=aI hke;clear hke JK;go_wp2_with fail
   obtain⟨wl,rfl⟩:∃wl:World,wl=wr:=⟨_,rfl⟩
   go_loopw [7,9] (λrv ii wr=>∃q vn vb D rs,q<=Rs.length/\ii=.int .i64 ((q:Nat):Int)/\rs.length=q/\wr.ownsRow we.heap.size 3 1 rv q ((bV rs).map (Value.int .i64))/\dK wr (w.heap.size+1) vn vb D/\iX we wr (w.heap.size+1) (.slice none 0 0) (.slice none 0 0) [] vn vb D/\D.length<=sizes Ls+sizes (Rs.take q)/\
    (∀b,rv.ownBlock=some b->we.heap.size<=b/\Beside wr (w.heap.size+1) vn vb D b)/\wr.heap[w.heap.size]?=some (.cells #[.slice none 0 0] 30 (0,0))/\Beside wr (w.heap.size+1) vn vb D w.heap.size/\
    wr.ownsRow we.heap.size 3 1 (.slice aL k cL) k ((bV ls).map (Value.int .i64))/\(∀b,Value.ownBlock (.slice aL k cL)=some b->Beside wr (w.heap.size+1) vn vb D b)/\(∀b,Value.ownBlock (.slice aL k cL)=some b->rv.ownBlock≠some b)/\Hid (F4 D Ls ls)/\Hid (F4 D Rs rs)) (λ_ ii _=>Rs.length-(intOf ii).toNat)
   case atStart=>exact⟨0,_,_,D1,[],az _,rfl,rfl,hr0,hB1,hG1,by simpa [sizes]using hD1,Cb,hres,hrb,hown,λb hb=>(yl b hb).2,hsb,HA,λj h=>absurd h (by simp)⟩
   case round=>
    clear hB1 hG1 hD1 yl hres hrb hr0 hrr hne HA hown hsb Cb;obtain⟨q,o7,vb1,D1,rs,hq,rfl,har,Ee,hB1,hG1,hD1,Cb,hres,hrb,Nq,Tj,hsb,HA,HAr⟩:=hrel;have JK:=hB.go hB1 hG1;by_cases hlt:q<Rs.length
    .have h2:((q:Nat):Int)<(Rs.length:Int):=by omega
     obtain⟨bA,cA,aN,cN,he,hcA,hcell,hN⟩:=hb.at hlt;simp only[gz]at he;obtain⟨rfl,-,rfl⟩:=he;have cc:=dP JK.ext hcell;obtain⟨g1,g2⟩:=gR _ (aj hlt);obtain⟨aR,cR,rfl,hcR,_⟩:=bu Ee;have hrm:D1.length+(Rs[q]).length<=1000000:=(by have:=rR hlt;have:=GQ Rs (q+1);omega);have HT:=aI (rR hlt)
     go_wp2_with (first
      |(go_at_call 112;refine(G8 _ o7 vb1 D1 _ Rs[q] w _ JK hN g1 g2 hrm).mono ?_;rintro e w3 ⟨F8,qK,D2,i2,rfl,hB3,gU,hD3,hi3,Eg⟩
        have hown3:=aV Ee gU.keep (λb hb=>(Cb b hb).2.ins);have hG3:=hG1.trans gU;have YI:=hG3.keep.size;have hx4:Ext w3 (w3.alloc (.cells #[.int .i64 ((i2:Nat):Int)] 3)):=by go_grown)
      |(at_builtin;refine dm rfl (.tmp 35) (.tmp 42) 41 rfl we.heap.size 3 i0 (.int .i64 0) 1 8 underlying41 hi0 hz0 hz1 hz2 rfl (by decide) (.slice aR q cR) q ((bV rs).map (Value.int .i64)) rfl (bW hown3 hx4) _ 1 _ [.int .i64 ((i2:Nat):Int)] rfl rfl (.inr ⟨_,rfl,dA (bY _ _ _)⟩) one_cell (by unfold maxLen;omega) (by omega) (by rw[eX];omega) ?_;intro v5 w5 ji hg5 hl5))
     have rC:∀b,Value.ownBlock (.slice aR q cR)=some b->we.heap.size<=b/\Beside w3 (w.heap.size+1) F8 qK D2 b:=λb hb=>⟨(Cb b hb).1,(Cb b hb).2.go (Ee.lt b hb).2 gU⟩
     obtain⟨XI,Gc,yh,hside⟩:=Beside.row hG3 hB3 rC hx4 hg5 hl5;have oH:w3.heap[w.heap.size]?=some (.cells #[.slice none 0 0] 30 (0,0)):=(by rw[gU.keep.block _ (bq hres) hrb.ins];exact hres);have Ed:w5.heap[w.heap.size]?=some (.cells #[.slice none 0 0] 30 (0,0)):=by
      rw[hg5.block _ (by rw[eX];have:=bq oH;omega) (λe=>by have:=(rC _ e.symm).1;omega),hx4.block _ (bq oH)];exact oH
     have Pg:=hside _ (hrb.go (bq hres) gU);have hl3:=aV Nq gU.keep (λb hb=>(Tj b hb).ins);have hk5:dW (λb=>Value.ownBlock (.slice aR q cR)=some b) (w3.alloc (.cells #[.int .i64 ((i2:Nat):Int)] 3)) w5:=⟨hg5.os,hg5.tape,hg5.output,hg5.size,λk hk hn=>hg5.block k hk (λe=>hn e.symm)⟩;have agy:=aV (bW hl3 hx4) hk5 (λb hb e=>hsb b hb e);have aal:∀b,Value.ownBlock (.slice aL k cL)=some b->Beside w5 (w.heap.size+1) F8 qK D2 b:=λb hb=>hside _ ((Tj b hb).go (Nq.lt b hb).2 gU)
     have af1:∀b,Value.ownBlock (.slice aL k cL)=some b->v5.ownBlock≠some b:=λb hb=>by
      rcases hl5 with h|⟨g,h,h2⟩
      .rw[h];exact hsb b hb
      .rw[h];intro e;injection e with e;rw[eX]at h2;have:=(hl3.lt b hb).2;omega
     have htl:=HA.out.more hB1.good.wf hB3.good.wf gU.more;have htk:=(HAr.out.more hB1.good.wf hB3.good.wf gU.more).snoc hi3 (by rw[har,aO,ae hlt];exact Eg);go_roundw
     case rel=>exact⟨q+1,F8,qK,D2,rs++[i2],by omega,by go_num,by rw[aK,har];rfl,by simpa [bV]using ji,XI,Gc,by have:=HT.out;omega,yh,Ed,Pg,agy,aal,af1,htl,htk⟩
     case measure=>simp[intOf];omega
    .have hqe:q=Rs.length:=by omega
     have h2:¬(((q:Nat):Int)<(Rs.length:Int)):=(by omega);obtain⟨aR,cR,rfl,hcR,amN⟩:=bu Ee;have hkl:=Mr.out;have hIl:=Ints.dX (l:=bV ls) Nq (by rw[aP];omega);have hIr:=Ints.dX (l:=bV rs) Ee (by rw[aP];omega);rw[hqe,dH (ax _)]at hD1;have bl:∀x,x∈ls->x<D1.length:=λx hx=>by obtain⟨j,hj,rfl⟩:=aH.1 hx;exact(HA.out j hj).1
     have br:∀x,x∈rs->x<D1.length:=λx hx=>by obtain⟨j,hj,rfl⟩:=aH.1 hx;exact(HAr.out j hj).1
     have HQE:=aI hqe;have HIL:=aI hIl;have HIR:=aI hIr;have HD1:=aI hD1;have Zm:=aI hG1;have zX:=aI (hal.trans hkl);have HAR:=aI (har.trans hqe);clear hqe hkl hIl hIr Nq Ee Cb Tj hsb hD1
     go_wp2_with (first
      |(go_at_call 114;refine(xM _ o7 vb1 D1 _ _ ls rs _ hB1 HIL.out HIR.out bl br (by have:=zX.out;omega) (by have:=HAR.out;omega) (by have:=HD1.out;omega)).mono ?_;rintro e w3 ⟨F8,qK,D2,i2,rfl,hB3,hK3,Eg,XA,hP3⟩
        have oH:w3.heap[w.heap.size]?=some (.cells #[.slice none 0 0] 30 (0,0)):=(by rw[hK3.block _ (bq hres) hrb.ins];exact hres);have Dc:=hB.go hB3 (Zm.out.trans (iX.Rx hK3 Eg XA hP3)))
      |(go_at_call 70;refine(Cg _ F8 qK D2 i2 _ hB3 hP3.lt).mono ?_;rintro e w7 ⟨vN,F',rfl,hN7,hIF,hS7,hx7⟩
        obtain⟨aN,cN,rfl,-⟩:=id hN7;have BX:w7.heap[w.heap.size]?=some (.cells #[.slice none 0 0] 30 (0,0)):=(by rw[hx7.block _ (bq oH)];exact oH);have cr7:=bI w7 w.heap.size 0 _ _ _ BX;have fr7:=iW w7 w.heap.size 0 _ _ BX;have HH:Hid ((w7.setCell ⟨w.heap.size,0,none⟩ (.slice aN F'.length cN)).heap[w.heap.size]?=some (.cells #[.slice aN F'.length cN] 30 (0,0))):=iV w7 w.heap.size 0 _ _ (.slice aN F'.length cN) BX))
     (try simp only[Exit.inBlock,Exit.then]);refine bodyPost_ret (results_cell_row rfl _ _ w.heap.size 30 #[.slice aN F'.length cN] (0,0) _ rfl HH.out underlying30 rfl (by kernel_rfl)) rfl ?_;have hN8:=(hN7.set (p:=⟨w.heap.size,0,none⟩) (by show w.heap.size<w3.heap.size;exact bq oH) (.slice aN F'.length cN)).weaken (base':=w.heap.size) Dc.ext.size;have hsm:=XO hB3.good hP3.lt hIF hS7;have hgm:=Oz hB1.good.wf hB3.good.wf zX.out HAR.out HA.out HAr.out hP3;exact⟨_,F',rfl,hN8,hIF,aZ.fE hS7 hgm,by have:=hP3.len;have:=HD1.out;omega,(ah Dc.ext hx7).setCell (p:=⟨w.heap.size,0,none⟩) (ax _) _⟩
end
section
open Go.RowKit
def oC(b:UInt8):Bool:=b == 76 || b == 82
def pU(s:ByteArray)(most:Int):Bool:=decide (∀i (h:i<s.size),oC s[i]=true) && decide ((s.size:Int)<=most)
theorem sI(s:ByteArray)(most:Int)(w:World)(hs:s.size<=2000000):Calls prog 61 #[.string s,.int .i64 most] w λe w'=>e=.returned (.bool (pU s most))/\w'=w:=by
 go_enter Tryz.func61,Tryz.ntmps61
 go_wp2
 go_loopw [5] (λii wr=>wr=w/\∃k,k<=s.size/\ii=.int .i64 ((k:Nat):Int)/\Hid (∀i (h:i<s.size),i<k->oC s[i]=true)) (λii _=>s.size-(intOf ii).toNat)
 case atStart=>exact⟨rfl,0,az _,rfl,λi _ h=>absurd h (by omega)⟩
 case round=>
  obtain⟨rfl,k,hk,rfl,HP⟩:=hrel;by_cases hlt:k<s.size
  .have h1:((k:Nat):Int)<(s.size:Int):=by omega
   have hsg:oC s[k]=true↔(s[k].toNat=76\/s[k].toNat=82):=by
    simp only[oC,qm,beq_iff_eq,<-UInt8.toNat_inj];rfl
   have HS:=aI hsg;clear hsg;by_cases Al:s[k].toNat=76
   .have e1:((s[k].toNat:Nat):Int)=76:=by omega
    have HK:=aI (HS.out.2 (.inl Al));clear Al;go_wp2
    go_roundw
    case rel=>exact⟨trivial,k+1,by omega,by go_num,λi hi hik=>by
     by_cases e:i=k
     .subst e;exact HK.out
     .exact HP.out i hi (by omega)⟩
    case measure=>simp[intOf];omega
   .by_cases VE:s[k].toNat=82
    .have e1:((s[k].toNat:Nat):Int)=82:=by omega
     have HK:=aI (HS.out.2 (.inr VE));clear Al VE;go_wp2
     go_roundw
     case rel=>exact⟨trivial,k+1,by omega,by go_num,λi hi hik=>by
      by_cases e:i=k
      .subst e;exact HK.out
      .exact HP.out i hi (by omega)⟩
     case measure=>simp[intOf];omega
    .have e1:(((s[k].toNat:Nat):Int) != 76)=true:=by simp;omega
     have e2:(((s[k].toNat:Nat):Int) != 82)=true:=(by simp;omega);have e3:¬(((s[k].toNat:Nat):Int)=76):=(by omega);have e4:¬(((s[k].toNat:Nat):Int)=82):=(by omega);have HN:Hid (¬(oC s[k]=true)):=λh=>by rcases HS.out.1 h with h|h;exact Al h;exact VE h
     clear Al VE;go_wp2
     go_ret
     refine⟨dI ?_,rfl⟩;have:decide (∀i (h:i<s.size),oC s[i]=true)=false:=decide_eq_false (λh=>HN.out (h k hlt));simp[pU,this]
  .have h1:¬(((k:Nat):Int)<(s.size:Int)):=by omega
   go_wp2
   go_ret
   refine⟨dI ?_,rfl⟩;have:decide (∀i (h:i<s.size),oC s[i]=true)=true:=decide_eq_true (λi hi=>HP.out i hi (by omega));simp[pU,this]
end
section
open Go.RowKit
def jY(us:List Int)(s:ByteArray):Bool:=decide (us.length=s.size) && pU s 8 && decide (∀i,i<us.length->wD (dD us i) (-1) ((i:Int)-1)=true)
theorem tJ(v:Value)(us:List Int)(s:ByteArray)(w:World)(hv:Ints w v us)(hs:s.size<=2000000):Calls prog 47 #[.agg #[v,.string s]] w λe w'=>e=.returned (.bool (jY us s))/\Ext w w':=by
 obtain⟨a,cap,rfl,hcap,yH,hcells⟩:=hv;have hxb:Ext w (w.alloc (.cells #[.slice a us.length cap,.string s] 43)):=by go_grown
 by_cases hlen:us.length=s.size
 .rw[hlen]at hxb hcap yH hcells ⊢
  have HLEN:=aI hlen;clear hlen;have hdl:decide (us.length=s.size)=true:=decide_eq_true HLEN.out;cases hsg:pU s 8 with
  |false=>
   go_enter Tryz.func47,Tryz.ntmps47
   go_wp2_with (go_at_call 61;refine(sI s _ _ hs).mono ?_;rintro e w1 ⟨he,rfl⟩;rw[hsg]at he;subst he)
   go_ret
   exact⟨dI (by simp[jY,hsg]),hxb⟩
  |true=>
   go_enter Tryz.func47,Tryz.ntmps47
   go_wp2_with (go_at_call 61;refine(sI s _ _ hs).mono ?_;rintro e w1 ⟨he,rfl⟩;rw[hsg]at he;subst he)
   have c0:=bI (w.alloc (.cells #[.slice a s.size cap,.string s] 43)) w.heap.size 0 _ _ _ (dV w _);generalize hW:w.alloc (.cells #[.slice a s.size cap,.string s] 43)=W at *;clear hW;go_loopw [3] (λii wr=>∃k n,k<=s.size/\ii=.int .i64 ((k:Nat):Int)/\wr=W.drewN n/\Hid (∀i,i<k->wD (dD us i) (-1) ((i:Int)-1)=true)) (λii _=>s.size-(intOf ii).toNat)
   case atStart=>exact⟨0,0,az _,rfl,rfl,λi h=>absurd h (by omega)⟩
   case round=>
    obtain⟨k,n,hk,rfl,rfl,HP⟩:=hrel;by_cases hlt:k<s.size
    .have h1:((k:Nat):Int)<((s.size:Nat):Int):=by omega
     obtain⟨b,off,rfl,hcell⟩:=hcells (by omega);have hck:=hcell k hlt;have lK:=dP hxb hck;cases hin:wD (dD us k) (-1) ((k:Int)-1)with
     |true=>
      have HI:=aI hin;go_wp2_with (go_at_call 92;refine(jg _ _ _ _).mono ?_;rintro e w1 ⟨he,m,rfl⟩;rw[hin]at he;subst he)
      go_roundw
      case rel=>exact⟨k+1,n+m,by omega,by go_num,by simp,λi hik=>by
       by_cases e:i=k
       .subst e;exact HI.out
       .exact HP.out i (by omega)⟩
      case measure=>simp[intOf];omega
     |false=>
      have HI:=aI hin;go_wp2_with (go_at_call 92;refine(jg _ _ _ _).mono ?_;rintro e w1 ⟨he,m,rfl⟩;rw[hin]at he;subst he)
      go_ret
      refine⟨dI ?_,dG hxb _⟩;have hd:decide (∀i,i<us.length->wD (dD us i) (-1) ((i:Int)-1)=true)=false:=decide_eq_false (λh=>by have:=h k (by rw[HLEN.out];exact hlt);rw[HI.out]at this;cases this);simp[jY,hd]
    .have h1:¬(((k:Nat):Int)<((s.size:Nat):Int)):=by omega
     go_wp2
     go_ret
     refine⟨dI ?_,dG hxb _⟩;have hd:decide (∀i,i<us.length->wD (dD us i) (-1) ((i:Int)-1)=true)=true:=decide_eq_true (λi hi=>HP.out i (by rw[HLEN.out]at hi;omega));rw[jY,hdl,hsg,hd];rfl
 .have hne:(((us.length:Nat):Int) != ((s.size:Nat):Int))=true:=by simp;omega
  have hne':¬(((us.length:Nat):Int)=((s.size:Nat):Int)):=by omega
  have HL:=aI hlen;clear hlen;go_enter Tryz.func47,Tryz.ntmps47
  go_wp2
  go_ret
  exact⟨dI (by simp[jY,HL.out]),hxb⟩
end
section
open Go.RowKit
theorem LX{p:UInt8->Bool}:∀{L:List UInt8},(∀x,x∈L.dropWhile p->p x=true)->∀x,x∈L->p x=true
 |[],_,x,hx=>by cases hx
 |a :: t,h,x,hx=>by
  cases ha:p a with
  |true=>
   rw[List.dropWhile_cons_of_pos ha]at h;rcases dZ.1 hx with rfl|hx
   .exact ha
   .exact LX h x hx
  |false=>
   rw[List.dropWhile_cons_of_neg (by simp[ha])]at h;exact h x hx
theorem TN{p:UInt8->Bool}:∀{L:List UInt8},(∀x,x∈L->p x=true)->L.dropWhile p=[]
 |[],_=>rfl
 |a :: t,h=>by rw[List.dropWhile_cons_of_pos (h a (by simp))];exact TN λx hx=>h x (by simp[hx])
theorem NZ(l cs:List UInt8):Lib.trimS l cs=[]↔∀c,c∈l->cs.contains c=true:=by
 unfold Lib.trimS Lib.trimLeftS Lib.trimRightS;constructor
 .intro h
  have h1:∀c,c∈(l.reverse.dropWhile (cs.contains ·))->cs.contains c=true:=λc hc=>by
   refine LX (L:=(l.reverse.dropWhile (cs.contains ·)).reverse) (p:=(cs.contains ·)) (λx hx=>by rw[h]at hx;cases hx) c (by simpa using hc)
  exact λc hc=>LX h1 c (by simpa using hc)
 .intro h
  rw[TN (L:=l.reverse) λc hc=>h c (by simpa using hc)];rfl
def nV(s:ByteArray):Bool:=decide (∀i (h:i<s.size),oC s[i]=true)
theorem Sb:(prog.info? 179).map (λi=>(i.zero,i.size))=some (some (.agg (Array.replicate 256 (.bool false))),256):=by kernel_rfl
theorem KG(s:ByteArray):((Lib.trimS s.data.toList [76,82])== [])=nV s:=by
 unfold nV;rw[fV,beq_iff_eq,decide_eq_true_iff,NZ];constructor
 .intro h i hi
  have hm:s[i]∈s.data.toList:=by rw[Array.mem_toList_iff];exact Array.getElem_mem (xs:=s.data) hi
  have:=h _ hm;simp at this;unfold oC;rcases this with h|h <;> rw[h] <;> rfl
 .intro h c hc
  obtain⟨i,hi,rfl⟩:=aH.1 hc;have:=h i (by simpa using hi);have e:s.data.toList[i]=s[i]'(by simpa using hi):=by simp;rfl
  rw[e];unfold oC at this;simp at this ⊢;exact this
theorem oW(s:ByteArray)(w:World)(hs:s.size<=2000000):Calls prog 59 #[.string s] w λe w'=>e=.returned (.bool (nV s))/\Ext w w':=by
 have hm:=KG s;have ha:∀(j:Nat) b,(⟨#[76,82]⟩:ByteArray).data.toList[j]?=some b->b.toNat<128:=by
  intro j b h;have:=fq h;simp at this;rcases this with rfl|rfl <;> decide
 have hsz2:(⟨#[76,82]⟩:ByteArray).size<4294967281:=by decide
 have hsz1:s.size<=9223372036854775807:=by omega
 go_enter Tryz.func59,Tryz.ntmps59
 go_wp2_with (go_at_call 107;refine(Tryz.strings_Trim_laid s ⟨#[76,82]⟩ _ Sb hsz1 hsz2 ha).mono ?_;rintro e w1 ⟨rfl,hx1⟩)
 go_ret
 refine⟨dI ?_,hx1⟩;rw[<-hm]
theorem pE(v:Value)(us:List Int)(s:ByteArray)(w:World)(hv:Ints w v us)(hs:s.size<=2000000):Calls prog 26 #[.agg #[v,.string s]] w λe w'=>e=.returned (.bool (jY us s))/\Ext w w':=by
 obtain⟨a,cap,rfl,hcap,yH,hcells⟩:=hv;have hxb:Ext w (w.alloc (.cells #[.slice a us.length cap,.string s] 43)):=by go_grown
 have hbb:=dV w (.cells #[.slice a us.length cap,.string s] 43);by_cases h8:(8:Int)<((us.length:Nat):Int)
 .have HL:=aI h8
  go_enter Tryz.func26,Tryz.ntmps26
  go_wp2
  go_ret
  refine⟨dI ?_,hxb⟩;have h8:=HL.out;by_cases hl:us.length=s.size
  .have:¬(((s.size:Nat):Int)<=8):=by omega
   simp[jY,pU,this]
  .simp[jY,hl]
 by_cases hlen:us.length=s.size
 .rw[hlen]at hxb hcap yH hcells hbb h8 ⊢
  have HLEN:=aI hlen;clear hlen;have hdl:decide (us.length=s.size)=true:=decide_eq_true HLEN.out;have hds:decide (((s.size:Nat):Int)<=8)=true:=decide_eq_true (by omega);have hsb:pU s 8=nV s:=by unfold pU nV;rw[hds,Bool.and_true]
  cases hsg:nV s with
  |false=>
   go_enter Tryz.func26,Tryz.ntmps26
   go_wp2_with (go_at_call 59;refine(oW s _ hs).mono ?_;rintro e w1 ⟨he,hx1⟩;rw[hsg]at he;subst he)
   go_ret
   exact⟨dI (by simp[jY,hsb,hsg]),ah hxb hx1⟩
  |true=>
   go_enter Tryz.func26,Tryz.ntmps26
   go_wp2_with (go_at_call 59;refine(oW s _ hs).mono ?_;rintro e w1 ⟨he,hx1⟩;rw[hsg]at he;subst he;have hx2:=ah hxb hx1;have c0:=bI w1 w.heap.size 0 _ _ _ (kY hx1 hbb))
   generalize w.alloc (.cells #[.slice a s.size cap,.string s] 43)=W at *;clear hx1 hbb hxb;go_loopw [3,4,27] (λ_ _ ii wr=>∃k,k<=s.size/\ii=.int .i64 ((k:Nat):Int)/\wr=w1/\Hid (∀i,i<k->wD (dD us i) (-1) ((i:Int)-1)=true)) (λ_ _ ii _=>s.size-(intOf ii).toNat)
   case atStart=>exact⟨0,az _,rfl,rfl,λi h=>absurd h (by omega)⟩
   case round=>
    obtain⟨k,hk,rfl,rfl,HP⟩:=hrel;by_cases hlt:k<s.size
    .have h1:((k:Nat):Int)<((s.size:Nat):Int):=by omega
     obtain⟨b,off,rfl,hcell⟩:=hcells (by omega);have hck:=hcell k hlt;have lK:=dP hx2 hck;by_cases ha:dD us k < -1
     .have HI:wD (dD us k) (-1) ((k:Int)-1)=false:=by unfold wD;rw[decide_eq_false (show ¬(-1<=dD us k) by omega)];rfl
      have HI:=aI HI;go_wp2
      go_ret
      refine⟨dI ?_,hx2⟩;have hd:decide (∀i,i<us.length->wD (dD us i) (-1) ((i:Int)-1)=true)=false:=decide_eq_false (λh=>by have:=h k (by rw[HLEN.out];exact hlt);rw[HI.out]at this;cases this);simp[jY,hd]
     .by_cases hb:(k:Int)<=dD us k
      .have HI:wD (dD us k) (-1) ((k:Int)-1)=false:=by unfold wD;rw[decide_eq_false (show ¬(dD us k<=(k:Int)-1) by omega),Bool.and_false]
       have HI:=aI HI;go_wp2
       go_ret
       refine⟨dI ?_,hx2⟩;have hd:decide (∀i,i<us.length->wD (dD us i) (-1) ((i:Int)-1)=true)=false:=decide_eq_false (λh=>by have:=h k (by rw[HLEN.out];exact hlt);rw[HI.out]at this;cases this);simp[jY,hd]
      .have HI:wD (dD us k) (-1) ((k:Int)-1)=true:=by unfold wD;simp;omega
       have HI:=aI HI;go_wp2
       go_roundw
       case rel=>exact⟨k+1,by omega,by go_num,by first|rfl|trivial,λi hik=>by
        by_cases e:i=k
        .subst e;exact HI.out
        .exact HP.out i (by omega)⟩
       case measure=>simp[intOf];omega
    .have h1:¬(((k:Nat):Int)<((s.size:Nat):Int)):=by omega
     go_wp2
     go_ret
     refine⟨dI ?_,hx2⟩;have hd:decide (∀i,i<us.length->wD (dD us i) (-1) ((i:Int)-1)=true)=true:=decide_eq_true (λi hi=>HP.out i (by rw[HLEN.out]at hi;omega));rw[jY,hdl,hsb,hsg,hd];rfl
 .have hne:(((us.length:Nat):Int) != ((s.size:Nat):Int))=true:=by simp;omega
  have hne':¬(((us.length:Nat):Int)=((s.size:Nat):Int)):=by omega
  have HL:=aI hlen;clear hlen;go_enter Tryz.func26,Tryz.ntmps26
  go_wp2
  go_ret
  exact⟨dI (by simp[jY,HL.out]),hxb⟩
end
