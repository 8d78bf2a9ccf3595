/- 26 -/
import Derived.Test.YtplgooajigigkaaGreatDoorK25
set_option maxRecDepth 100000
set_option maxHeartbeats 4000000
namespace Go.Proofs.YtplgooajigigkaaGreatDoor
open Tryz
section
open Go.RowKit
def Ze(O:List Int)(j:Nat):Int:=if j=0 then -1 else jl O (j-1)
def Co(O:List Int)(n:Int):Bool:=decide (O.length<=24/\∀j,j<O.length->Ze O j<jl O j/\jl O j<n)
theorem qj(v:Value)(O:List Int)(n:Int)(w:World)(hv:Ints w v O):Calls prog 99 #[v,.int .i64 n] w λe w'=>e=.returned (.bool (Co O n))/\Ext w w':=by
 obtain⟨a,cap,rfl,hlc,hcap,hc⟩:=hv;obtain⟨r,hr⟩:=fu (Co O n);have HR:=aW hr;rw[<-hr];clear hr;go_enter Tryz.func99,Tryz.ntmps99
 by_cases h24:(24:Int)<((O.length:Nat):Int)
 .have hf:r=false:=by rw[HR.out];exact decide_eq_false λk=>by omega
  subst hf;go_wp2
  go_ret
  exact⟨rfl,gz _ _⟩
 .go_wp2
  go_loopw [5,7,13] (λlv _ ii wr=>∃(k:Nat) (z:Int),k<=O.length/\ii=.int .i64 ((k:Nat):Int)/\lv=.int .i64 z/\Ext w wr/\Hid (z=Ze O k)/\Hid (∀j,j<k->Ze O j<jl O j/\jl O j<n)) (λ_ _ ii _=>O.length-(intOf ii).toNat)
  case atStart=>exact⟨0,-1,aU _,rfl,rfl,gz _ _,rfl,λj h=>by omega⟩
  case round=>
   obtain⟨k,z,hk,rfl,rfl,hx,HZ,HJ⟩:=hrel;by_cases hlt:k<O.length
   .have h1:((k:Nat):Int)<((O.length:Nat):Int):=by omega
    obtain⟨b,off,rfl,hcell⟩:=hc (by omega);have hck:=hcell k hlt;have ou:=fw hx hck;obtain⟨x,hxe⟩:=fu (jl O k);rw[<-hxe]at hck ou;have hgd:jl O k=x:=hxe.symm;have HGD:=aW hgd;have kg:=aW hlt;clear hcell hxe hck hgd hlt;by_cases h2:x<=z
    .have hf:r=false:=by
      rw[HR.out];exact decide_eq_false λq=>by
       have:=(q.2 k kg.out).1;rw[HGD.out,<-HZ.out]at this;omega
     subst hf;go_wp2
     go_ret
     exact⟨rfl,hx⟩
    .by_cases h3:n<=x
     .have hf:r=false:=by
       rw[HR.out];exact decide_eq_false λq=>by
        have:=(q.2 k kg.out).2;rw[HGD.out]at this;omega
      subst hf;go_wp2
      go_ret
      exact⟨rfl,hx⟩
     .have HN:Hid (∀j,j<k+1->Ze O j<jl O j/\jl O j<n):=λj hj=>by
       by_cases e:j=k
       .subst e;rw[HGD.out,<-HZ.out];omega
       .exact HJ.out j (by omega)
      have HP:Hid (x=Ze O (k+1)):=by
       show x=_;unfold Ze;rw[if_neg (by omega),sW,HGD.out]
      have hl2:=kg.out;go_wp2
      go_roundw
      case rel=>exact⟨k+1,x,by omega,by go_num,rfl,hx,HP,HN⟩
      case measure=>simp[intOf];omega
   .have h1:¬(((k:Nat):Int)<((O.length:Nat):Int)):=by omega
    have hf:r=true:=by
     rw[HR.out];exact decide_eq_true ⟨by omega,λj hj=>HJ.out j (by omega)⟩
    subst hf;go_wp2
    go_ret
    exact⟨rfl,hx⟩
end
section
open Go.RowKit
open bE (dh Nd vl)
variable {w:World} {v:Value}
abbrev ru:=List Int × List Int
def kH(w:World)(v:Value)(F:List ru):Prop:=∃a cap,v=.slice a F.length cap/\F.length<=cap/\F.length<=maxLen/\
 (0<F.length->∃b,a=some ⟨b,0,none⟩/\∀i (h:i<F.length),∃L R,w.cell? ⟨b,i*2,none⟩=some L/\w.cell? ⟨b,i*2+1,none⟩=some R/\Ints w L (F[i]).1/\Ints w R (F[i]).2/\
  (∀b,L.ownBlock=some b->b<w.heap.size)/\(∀b,R.ownBlock=some b->b<w.heap.size))
theorem kH.ext{w w':World}{v:Value}{F:List ru}(h:kH w v F)(hx:Ext w w'):kH w' v F:=by
 obtain⟨a,cap,rfl,h1,h2,h3⟩:=h;refine⟨a,cap,rfl,h1,h2,λh0=>?_⟩;obtain⟨b,rfl,hc⟩:=h3 h0;refine⟨b,rfl,λi hi=>?_⟩;obtain⟨L,R,c1,c2,c3,c4,c5,c6⟩:=hc i hi;have hz:=hx.size;exact⟨L,R,fw hx c1,fw hx c2,c3.ext hx,c4.ext hx,λb hb=>by have:=c5 b hb;omega,λb hb=>by have:=c6 b hb;omega⟩
theorem kH.at{F:List ru}(h:kH w v F){i:Nat}(hi:i<F.length):
 ∃b cap aL cL aR cR,v=.slice (some ⟨b,0,none⟩) F.length cap/\F.length<=cap/\w.cell? ⟨b,i*2,none⟩=some (.slice aL (F[i]).1.length cL)/\w.cell? ⟨b,i*2+1,none⟩=some (.slice aR (F[i]).2.length cR)/\
  Ints w (.slice aL (F[i]).1.length cL) (F[i]).1/\Ints w (.slice aR (F[i]).2.length cR) (F[i]).2:=by
 obtain⟨a,cap,rfl,h1,h2,h3⟩:=h;obtain⟨b,rfl,hc⟩:=h3 (by omega);obtain⟨L,R,c1,c2,c3,c4,c5,c6⟩:=hc i hi;obtain⟨aL,cL,rfl,-⟩:=id c3;obtain⟨aR,cR,rfl,-⟩:=id c4;exact⟨b,cap,aL,cL,aR,cR,rfl,h1,c1,c2,c3,c4⟩
def toN(l:List Int):List Nat:=l.map Int.toNat
theorem Qo{l:List Int}(h:∀x,x∈l->0<=x):dB (toN l)=l:=by
 unfold dB toN;rw[jg]
 conv=>rhs;rw[<-Au l]
 exact dC λx hx=>by have:=h x hx;simp;omega
def kU(F:List ru):dh:=F.map λnd=>(toN nd.1,toN nd.2)
theorem kH.nodes{F:List ru}(h:kH w v F)(hp:∀nd,nd∈F->(∀x,x∈nd.1->0<=x)/\∀x,x∈nd.2->0<=x):dI w 0 v (kU F):=by
 obtain⟨a,cap,rfl,h1,h2,h3⟩:=h;have hl:(kU F).length=F.length:=by simp[kU]
 refine⟨a,cap,by rw[hl],by omega,by omega,λh0=>?_⟩;obtain⟨b,rfl,hc⟩:=h3 (by omega);refine⟨b,rfl,aU _,λi hi=>?_⟩;obtain⟨L,R,c1,c2,c3,c4,c5,c6⟩:=hc i (by omega);have hq:=hp _ (ai (show i<F.length by omega));have e:(kU F)[i]=(toN (F[i]'(by omega)).1,toN (F[i]'(by omega)).2):=by simp[kU]
 rw[e];exact⟨L,R,c1,c2,by rw[Qo hq.1];exact c3,by rw[Qo hq.2];exact c4,λb hb=>⟨aU _,c5 b hb⟩,λb hb=>⟨aU _,c6 b hb⟩⟩
theorem Hf(D:dh):kU (D.map λnd=>(dB nd.1,dB nd.2))=D:=by
 unfold kU;rw[jg]
 conv=>rhs;rw[<-Au D]
 exact dC λnd _=>by
  show(toN (dB nd.1),toN (dB nd.2))=nd;have:∀l:List Nat,toN (dB l)=l:=λl=>by
   unfold toN dB;rw[jg]
   conv=>rhs;rw[<-Au l]
   exact dC λx _=>rfl
  rw[this,this]
def qV(D:dh):List ru:=D.map λnd=>(dB nd.1,dB nd.2)
theorem dI.dB{w:World}{v:Value}{F:dh}(h:dI w 0 v F):kH w v (qV F):=by
 obtain⟨a,cap,rfl,h1,h2,h3⟩:=h;have hl:(qV F).length=F.length:=by simp[qV]
 refine⟨a,cap,by rw[hl],by omega,by omega,λh0=>?_⟩;obtain⟨b,rfl,-,hc⟩:=h3 (by omega);refine⟨b,rfl,λi hi=>?_⟩;obtain⟨L,R,c1,c2,c3,c4,c5,c6⟩:=hc i (by omega);have e:(qV F)[i]=(Go.Proofs.YtplgooajigigkaaGreatDoor.dB (F[i]'(by omega)).1,Go.Proofs.YtplgooajigigkaaGreatDoor.dB (F[i]'(by omega)).2):=by simp[qV]
 rw[e];exact⟨L,R,c1,c2,c3,c4,λb hb=>(c5 b hb).2,λb hb=>(c6 b hb).2⟩
end
section
open Go.RowKit
open bE (dh Nd vl Same bI)
variable {F:List ru} {l:List Int} {k:Nat}
def tX(F:List ru):Bool:=decide (1<=F.length/\F.length<=120/\∀i (h:i<F.length),(F[i]).1.length<=24/\(F[i]).2.length<=24)
theorem rZ(F:List ru):(kU F).length=F.length:=by simp[kU]
theorem AP{i:Nat}(h:i<F.length):(kU F)[i]'(by rw[rZ];exact h)=(toN (F[i]).1,toN (F[i]).2):=by simp[kU]
theorem zl(F:List ru):tX F=dm (kU F):=by
 unfold tX dm;have e:=rZ F;refine decide_eq_decide.2 (and_congr (by rw[e]) (and_congr (by rw[e]) ⟨λh i hi=>?_,λh i hi=>?_⟩))
 .have:=h i (by omega)
  rw[AP (by omega)];simpa [toN]using this
 .have:=h i (by omega)
  rw[AP (by omega)]at this;simpa [toN]using this
def uT(l:List Int)(k:Nat):Prop:=∀j,j<l.length->0<=jl l j/\jl l j<(k:Int)/\(0<j->jl l (j-1)<jl l j)
def Gf(F:List ru):Prop:=∀k (h:k<F.length),uT (F[k]).1 k/\uT (F[k]).2 k
def nO(F:List ru):Prop:=tX F=true/\Gf F/\bI (kU F)
theorem AV(h:uT l k):∀x,x∈l->0<=x/\x<(k:Int):=λx hx=>by
 obtain⟨j,hj,rfl⟩:=aQ.1 hx;obtain⟨h1,h2,_⟩:=h j hj;have e:jl l j=l[j]:=by simp[jl,hj]
 rw[e]at h1 h2;exact⟨h1,h2⟩
theorem K4(h:uT l k):bE.Asc (toN l):=by
 refine dx.2 λi j hi hj hij=>?_
 have hl:(toN l).length=l.length:=by simp[toN]
 have key:∀d i,i+d<l.length->0<d->jl l i<jl l (i+d):=by
  intro d
  induction d with
  |zero=>intro i _ h0;omega
  |succ d ih=>
   intro i hi _;have s:=(h (i+(d+1)) hi).2.2 (by omega);rw[show i+(d+1)-1=i+d by omega]at s;by_cases e:d=0
   .subst e;exact s
   .exact Int.lt_trans (ih i (by omega) (by omega)) s
 have k1:=key (j-i) i (by omega) (by omega);rw[show i+(j-i)=j by omega]at k1;have e1:jl l i=l[i]:=by simp[jl,show i<l.length by omega]
 have e2:jl l j=l[j]:=by simp[jl,show j<l.length by omega]
 have p1:=(AV h _ (ai (show i<l.length by omega))).1;rw[e1,e2]at k1;simp only[toN,kJ];omega
theorem IP(h:Gf F):bE.WF (kU F)/\∀nd,nd∈kU F->bE.Asc nd.1/\bE.Asc nd.2:=by
 constructor
 .intro i nd hd
  obtain⟨hi,e⟩:=df.1 hd;rw[rZ]at hi;rw[AP hi]at e;subst e;have key:∀l:List Int,uT l i->∀k,k∈toN l->k<i:=λl hl k hk=>by
   obtain⟨x,hx,rfl⟩:=az.1 hk;have:=AV hl x hx;omega
  exact⟨key _ (h i hi).1,key _ (h i hi).2⟩
 .intro nd hd
  obtain⟨i,hi,rfl⟩:=aQ.1 hd;rw[rZ]at hi;rw[AP hi];exact⟨K4 (h i hi).1,K4 (h i hi).2⟩
theorem xA(h:Gf F):∀nd,nd∈F->(∀x,x∈nd.1->0<=x)/\∀x,x∈nd.2->0<=x:=λnd hd=>by
 obtain⟨i,hi,rfl⟩:=aQ.1 hd;exact⟨λx hx=>(AV (h i hi).1 x hx).1,λx hx=>(AV (h i hi).2 x hx).1⟩
theorem qJ:rises l 0 ((k:Int)-1)=true↔uT l k:=by
 rw[yM];unfold DZ uT;exact⟨λh j hj=>by obtain⟨a,b,c⟩:=h j hj;exact⟨a,by omega,c⟩,λh j hj=>by obtain⟨a,b,c⟩:=h j hj;exact⟨a,by omega,c⟩⟩
theorem yc(vf:Value)(F:List ru)(w:World)(hf:kH w vf F):Calls prog 109 #[.agg #[vf]] w λe w'=>e=.returned (.bool (tX F))/\Ext w w':=by
 obtain⟨aF,gH,rfl,hcap,zz,-⟩:=id hf;go_enter Tryz.func109,Tryz.ntmps109
 go_wp2
 have hxb:Ext w (w.alloc (.cells #[.slice aF F.length gH] 30)):=by go_grown
 have hbx:=bQ (w.alloc (.cells #[.slice aF F.length gH] 30)) w.heap.size 0 _ _ _ (eu w _);generalize hW:w.alloc (.cells #[.slice aF F.length gH] 30)=W at *;generalize hp:w.heap.size=p at *;clear hW hp;go_loopw [3] (λkk wr=>wr=W/\∃k,k<=F.length/\k<=121/\kk=.int .i64 ((k:Nat):Int)/\Hid (∀i (h:i<F.length),i<k->(F[i]).1.length<=24/\(F[i]).2.length<=24)) (λkk _=>F.length-(intOf kk).toNat)
 case atStart=>exact⟨rfl,0,aU _,by omega,rfl,λi _ h=>absurd h (by omega)⟩
 case round=>
  obtain⟨rfl,k,hk,hk2,rfl,HP⟩:=hrel;by_cases hlt:k<F.length
  .by_cases aa1:k<=120
   .obtain⟨bF,cF,aL,cL,aR,cR,he,Nh,cl,cr,-,-⟩:=hf.at hlt
    simp only[il]at he;obtain⟨rfl,-,rfl⟩:=he;have cl':=fw hxb cl;have MC:=fw hxb cr;have h1:((k:Nat):Int)<(F.length:Int):=(by omega);have h2:((k:Nat):Int)<=120:=(by omega);clear cl cr hf;by_cases hl:(F[k]).1.length<=24
    .have hl1:¬((24:Int)<((F[k]).1.length:Int)):=by omega
     by_cases hr:(F[k]).2.length<=24
     .have hr1:¬((24:Int)<((F[k]).2.length:Int)):=by omega
      have HL:=aW hl;have HR:=aW hr;clear hl hr;go_wp2
      go_roundw
      case rel=>exact⟨trivial,k+1,by omega,by omega,by go_num,λi hi hik=>by
       by_cases e:i=k
       .subst e;exact⟨HL.out,HR.out⟩
       .exact HP.out i hi (by omega)⟩
      case measure=>simp[intOf];omega
     .have hr1:((24:Int)<((F[k]).2.length:Int)):=by omega
      have HR:=aW hr;clear hl hr;go_wp2
      go_ret
      exact⟨gJ (by symm;rw[tX];exact decide_eq_false (λh=>HR.out (h.2.2 k hlt).2)),hxb⟩
    .have hl1:((24:Int)<((F[k]).1.length:Int)):=by omega
     have HL:=aW hl;clear hl;go_wp2
     go_ret
     exact⟨gJ (by symm;rw[tX];exact decide_eq_false (λh=>HL.out (h.2.2 k hlt).1)),hxb⟩
   .have h1:((k:Nat):Int)<(F.length:Int):=by omega
    have h2:¬(((k:Nat):Int)<=120):=(by omega);go_wp2_with (go_at_call 92;refine(lL _ _ _ _).mono ?_;rintro e w1 ⟨rfl,n,rfl⟩)
    go_ret
    refine⟨gJ ?_,eH hxb _⟩;have:tX F=false:=(by rw[tX];exact decide_eq_false (λh=>by omega));rw[this];simp[Oz];omega
  .have h1:¬(((k:Nat):Int)<(F.length:Int)):=by omega
   go_wp2_with (go_at_call 92;refine(lL _ _ _ _).mono ?_;rintro e w1 ⟨rfl,n,rfl⟩)
   go_ret
   refine⟨gJ ?_,eH hxb _⟩;have hall:=HP.out;rw[tX,Oz,<-Bool.decide_and];refine decide_eq_decide.2 ⟨λh=>⟨by omega,by omega,λi hi=>hall i hi (by omega)⟩,λh=>⟨by omega,by omega⟩⟩
theorem Om(vf:Value)(F:dh)(w:World)(hf:dI w 0 vf F):Calls prog 109 #[.agg #[vf]] w λe w'=>e=.returned (.bool (dm F))/\Ext w w':=by
 have h:=yc vf (qV F) w hf.dB;rw[zl,show kU (qV F)=F from Hf F]at h;exact h
end
section
open Go.RowKit
open bE (dh Nd vl Same)
theorem Wq(vf:Value)(F:dh)(w:World)(hf:dI w 0 vf F):Calls prog 195 #[.agg #[vf]] w λe w'=>e=.returned (.tuple #[.agg #[if dm F then vf else .slice none 0 0],.bool (dm F)])/\Ext w w':=by
 obtain⟨aF,gH,rfl,hcap,zz,-⟩:=id hf;obtain⟨W,hW,hx,hb0,hb1⟩:∃W,W=(w.alloc (.cells #[.slice aF F.length gH] 30)).alloc (.cells #[.slice none 0 0] 30)/\Ext w W/\W.heap[w.heap.size]?=some (.cells #[.slice aF F.length gH] 30 (0,0))/\W.heap[w.heap.size+1]?=some (.cells #[.slice none 0 0] 30 (0,0)):=by
  refine⟨_,rfl,by go_grown,?_,?_⟩
  .rw[jo _ _ _ (by simp only[fU];omega)];exact eu _ _
  .have h:=eu (w.alloc (.cells #[.slice aF F.length gH] 30)) (.cells #[.slice none 0 0] 30);rw[fU]at h;exact h
 have c0:=bQ W w.heap.size 0 _ _ _ hb0;simp only[gE]at c0;have HL:=aW (Om (.slice aF F.length gH) F W (hf.ext hx));have HB:=nY hb1 hb0 hx;clear hb0 hb1 hx hf hcap zz;obtain⟨ok,hok⟩:=fu (dm F);rw[<-hok]at HL ⊢;clear hok;go_enter Tryz.func195,Tryz.ntmps195
 go_upto_region 1 with fail
 rw[<-hW];clear hW;cases ok with
 |true=>
  go_wp2_with (go_at_call 109;refine HL.out.mono ?_;rintro e w2 ⟨rfl,hx2⟩
               have hr2:=ik hx2 HB.out.1;have hc2:=ik hx2 HB.out.2.1;have z0:=bQ _ w.heap.size 0 _ _ _ hc2;have z1:=bQ _ (w.heap.size+1) 0 _ _ _ hr2;have z2:=gQ _ (w.heap.size+1) 0 _ _ hr2;have HR:=jm hr2 hx2;clear hr2 hc2 hx2;simp only[gE]at z0)
  refine mg (w.heap.size+1) 30 _ (gK _ (w.heap.size+1) 0 _ _ (.slice aF F.length gH) HR.out.1) underlying30 ?_;exact⟨rfl,ll (ah HB.out.2.2 HR.out.2) (w.heap.size+1) 0 _⟩
 |false=>
  go_wp2_with (go_at_call 109;refine HL.out.mono ?_;rintro e w2 ⟨rfl,hx2⟩
               have hr2:=ik hx2 HB.out.1;have z1:=bQ _ (w.heap.size+1) 0 _ _ _ hr2;have z2:=gQ _ (w.heap.size+1) 0 _ _ hr2;have HR:=jm hr2 hx2;clear hr2 hx2)
  refine mg (w.heap.size+1) 30 _ (gK _ (w.heap.size+1) 0 _ _ (.slice none 0 0) HR.out.1) underlying30 ?_;exact⟨rfl,ll (ah HB.out.2.2 HR.out.2) (w.heap.size+1) 0 _⟩
end
section
open Go.RowKit
open bE (dh Nd vl Same)
theorem Ce(w:World)(X:Obj):∃W,W=w.alloc X/\Ext w W/\W.heap[w.heap.size]?=some X/\W.heap.size=w.heap.size+1:=⟨_,rfl,by go_grown,eu _ _,fU _ _⟩
theorem MV(w:World)(X Y:Obj):∃W,W=(w.alloc X).alloc Y/\Ext w W/\W.heap[w.heap.size]?=some X/\W.heap[w.heap.size+1]?=some Y/\W.heap.size=w.heap.size+1+1:=by
 refine⟨_,rfl,by go_grown,?_,?_,by simp only[fU]⟩
 .rw[jo _ _ _ (by simp only[fU];omega)];exact eu _ _
 .have h:=eu (w.alloc X) Y;rw[fU]at h;exact h
theorem Zt(w:World)(X Y Z:Obj):∃W,W=((w.alloc X).alloc Y).alloc Z/\Ext w W/\W.heap[w.heap.size]?=some X/\W.heap[w.heap.size+1]?=some Y/\W.heap[w.heap.size+1+1]?=some Z/\W.heap.size=w.heap.size+1+1+1:=by
 refine⟨_,rfl,by go_grown,?_,?_,?_,by simp only[fU]⟩
 .rw[jo _ _ _ (by simp only[fU];omega),jo _ _ _ (by simp only[fU];omega)];exact eu _ _
 .rw[jo _ _ _ (by simp only[fU];omega)]
  have h:=eu (w.alloc X) Y;rw[fU]at h;exact h
 .have h:=eu ((w.alloc X).alloc Y) Z;rw[fU,fU]at h;exact h
def yI(Q:Prop)(w:World)(e:Ending)(w':World):Prop:=∃b:Bool,e=.returned (.bool b)/\(b=true↔Q)/\Ext w w'
theorem Cu(B:Nat)(vf:Value)(F:dh)(w:World)(hf:dI w B vf F):Calls prog 195 #[.agg #[vf]] w λe w'=>∃(a:Option Addr) (n c:Nat) (ok:Bool),e=.returned (.tuple #[.agg #[.slice a n c],.bool ok])/\ok=dm F/\(ok=true->n=F.length/\dI w' B (.slice a n c) F)/\(ok=false->a=none/\n=0/\c=0)/\Ext w w':=
 (Wq vf F w (hf.weaken (aU _))).mono (by
  rintro e w' ⟨rfl,hx⟩;obtain⟨a,c,rfl⟩:=hf.slice;cases h:dm F with
  |false=>exact⟨none,0,0,false,by simp,rfl,(λh=>by cases h),λ_=>⟨rfl,rfl,rfl⟩,hx⟩
  |true=>exact⟨a,F.length,c,true,by simp,rfl,λ_=>⟨rfl,hf.ext hx⟩,(λh=>by cases h),hx⟩)
end
section
open Go.RowKit
open bE (dh Nd vl)
theorem FJ{F:dh}(hF:bE.bI F):nO (qV F)↔dm F=true:=by
 have e:kU (qV F)=F:=Hf F;unfold nO;rw[zl,e];refine⟨λh=>h.1,λh=>⟨h,λk hk=>?_,hF⟩⟩;have hk':k<F.length:=by simpa [qV]using hk
 have e2:(qV F)[k]=(dB (F[k]).1,dB (F[k]).2):=by simp[qV]
 rw[e2];have h2:=NM hF.good hk';exact⟨qJ.1 h2.1,qJ.1 h2.2⟩
end
section
open Go.RowKit
open bE (dh Nd Gm vl bI)
theorem wN{O:List Int}{k:Nat}:Co O (k:Int)=true↔O.length<=24/\uT O k:=by
 unfold Co uT;rw[decide_eq_true_eq];refine and_congr Iff.rfl ⟨λh j hj=>?_,λh j hj=>?_⟩
 .have pos:∀j,j<O.length->0<=jl O j:=λj=>by
   induction j with
   |zero=>intro hj;have:=(h 0 hj).1;unfold Ze at this;rw[if_pos rfl]at this;omega
   |succ j ih=>intro hj;have h1:=ih (by omega);have:=(h (j+1) hj).1;unfold Ze at this;rw[if_neg (by omega),sW]at this;omega
  exact⟨pos j hj,(h j hj).2,λh0=>by have:=(h j hj).1;unfold Ze at this;rwa [if_neg (by omega)]at this⟩
 .obtain⟨a,b,c⟩:=h j hj
  refine⟨?_,b⟩;unfold Ze;split
  .omega
  .exact c (by omega)
theorem VP{F:dh}{i j:Nat}(hi:i<F.length)(hj:j<F.length)(h:Dq (Lib.compareInt (bE.born (vl F i):Int) (bE.born (vl F j):Int)) (bE.cl (F[i]).1 (F[j]).1) (bE.cl (F[i]).2 (F[j]).2)<0):bE.Ahead F i j:=by
 unfold bE.Ahead;rw[bE.jM hi,bE.jM hj];rcases nV (bE.born (vl F i)) (bE.born (vl F j))with c|c|c
 .exact .inl c
 .have e:Lib.compareInt (bE.born (vl F i):Int) (bE.born (vl F j):Int)=0:=by rw[c];unfold Lib.compareInt;simp
  rw[e]at h;unfold Dq at h;rw[if_neg (by simp)]at h;exact .inr ⟨c,h⟩
 .have e:Lib.compareInt (bE.born (vl F i):Int) (bE.born (vl F j):Int)=1:=by unfold Lib.compareInt;rw[if_neg (by omega),if_pos (by omega)]
  rw[e]at h;simp[Dq]at h
def Vv:List Row:=[⟨0,[],51,[1]⟩,⟨1,[0],52,[50]⟩,⟨2,[],53,[6]⟩,⟨3,[2],54,[52]⟩,⟨4,[1,3],55,[51,53]⟩,⟨5,[4],56,[54]⟩,⟨6,[],57,[1]⟩,⟨7,[6],58,[56]⟩,⟨8,[],59,[6]⟩,⟨9,[7,8],60,[57,58]⟩,⟨10,[9],61,[59]⟩,⟨11,[],8,[]⟩,⟨12,[],9,[]⟩,⟨13,[11,5,0,1,2,3,4,5,11,12],0,[7,55]⟩,⟨14,[12,10,13,0,1,2,3,4,5,6,7,8,9,10,11,12,13],0,[8,60]⟩]
def Vu:List Row:=[⟨0,[],62,[5]⟩,⟨1,[],63,[6]⟩,⟨2,[1],64,[62]⟩,⟨3,[0,2],65,[61,63]⟩,⟨4,[3],66,[64]⟩,⟨5,[],67,[5]⟩,⟨6,[],68,[6]⟩,⟨7,[5,6],69,[66,67]⟩,⟨8,[7],70,[68]⟩,⟨9,[4,8],71,[65,69]⟩,⟨10,[],72,[7]⟩,⟨11,[10],73,[71]⟩,⟨12,[],74,[8]⟩,⟨13,[12],75,[73]⟩,⟨14,[11,13,9],76,[72,74]⟩,⟨15,[],77,[7]⟩,⟨16,[15],78,[76]⟩,⟨17,[],79,[8]⟩,⟨18,[17],80,[78]⟩,⟨19,[16,18,14],81,[77,79]⟩,⟨20,[9,14,19],82,[70,75,80]⟩,⟨21,[20,19],83,[81]⟩,⟨22,[21],84,[82]⟩]
theorem zK(v:Value)(Z:List ru)(w:World)(hz:kH w v Z):Calls prog 54 #[.agg #[v]] w (yI (nO Z) w):=by
 obtain⟨aF,gH,rfl,hcap,zz,-⟩:=id hz;obtain⟨F,Zn⟩:=fu (kU Z);have Pm:F.length=Z.length:=by rw[Zn,rZ]
 have HZ:=aW hz;have Zz:=jm Zn Pm;rw[show(Value.slice aF Z.length gH)=Value.slice aF F.length gH by rw[Pm]];rw[<-Pm]at hcap zz;have hxb:Ext w (w.alloc (.cells #[.slice aF F.length gH] 30)):=by go_grown
 have hbx:=bQ (w.alloc (.cells #[.slice aF F.length gH] 30)) w.heap.size 0 _ _ _ (eu w _);by_cases l1:1<=F.length/\F.length<=120
 case neg=>
  have HN:Hid (¬nO Z):=aW λk=>by
   have k1:=k.1;unfold tX at k1;have:=of_decide_eq_true k1;have:=Zz.out.2;omega
  clear hz Zn Pm;by_cases g0:(F.length:Int)<1
  .go_enter Tryz.func54,Tryz.ntmps54
   go_upto_region 1 with fail
   simp only[gE]at hbx;generalize w.alloc (.cells #[.slice aF F.length gH] 30)=W0 at *;go_wp2
   go_ret
   exact⟨false,rfl,⟨λh=>(by cases h),λh=>absurd h HN.out⟩,hxb⟩
  .have g2:((120:Int)<(F.length:Int)):=by omega
   go_enter Tryz.func54,Tryz.ntmps54
   go_upto_region 1 with fail
   simp only[gE]at hbx;generalize w.alloc (.cells #[.slice aF F.length gH] 30)=W0 at *;go_wp2
   go_ret
   exact⟨false,rfl,⟨λh=>(by cases h),λh=>absurd h HN.out⟩,hxb⟩
 case pos=>
 obtain⟨l1,l2⟩:=l1;have g1:¬((F.length:Int)<1):=by omega
 have g2:¬((120:Int)<(F.length:Int)):=by omega
 clear hz Zn Pm;go_enter Tryz.func54,Tryz.ntmps54
 go_upto_region 1 with fail
 simp only[gE]at hbx;generalize w.alloc (.cells #[.slice aF F.length gH] 30)=W0 at *;go_wp2
 go_loopw [3,4,22] (λ_ _ ii wr=>∃k:Nat,k<=F.length/\ii=.int .i64 ((k:Nat):Int)/\Ext W0 wr/\Hid (∀i (h:i<Z.length),i<k->((Z[i]).1.length<=24/\uT (Z[i]).1 i)/\((Z[i]).2.length<=24/\uT (Z[i]).2 i))) (λ_ _ ii _=>F.length-(intOf ii).toNat)
 case atStart=>exact⟨0,aU _,rfl,gz _ _,aW λi _ h=>absurd h (by omega)⟩
 case round=>
  obtain⟨k,hk,rfl,hx,HJ⟩:=hrel;by_cases hlt:k<F.length
  .have h1:((k:Nat):Int)<((F.length:Nat):Int):=by omega
   have hlz:k<Z.length:=(by have:=Zz.out.2;omega);obtain⟨bF,cF,aL,cL,aR,cR,he,Nh,cl,cr,vM,vJ⟩:=HZ.out.at hlz;simp only[il]at he;obtain⟨rfl,-,rfl⟩:=he;have hE:=ah hxb hx;have cl':=fw hE cl;have MC:=fw hE cr;obtain⟨zL,WI⟩:=fu ((Z[k]).1);obtain⟨zR,WH⟩:=fu ((Z[k]).2);rw[<-WI]at cl cl' vM;rw[<-WH]at cr MC vJ;have HE2:=nY WI WH hlz;have Kc:Ext wr (wr.alloc (.cells #[.slice aL zL.length cL,.slice aR zR.length cR] 91)):=(by go_grown);have hbW:=eu wr (.cells #[.slice aL zL.length cL,.slice aR zR.length cR] 91);have HI:=jm (vM.ext (ah hE Kc)) (vJ.ext (ah hE Kc));clear cl cr vM vJ WI WH;cases oL:Co zL (k:Int)with
   |false=>
    have HN:Hid (¬nO Z):=aW λq=>by
     have q2:=(q.2.1 k HE2.out.2.2).1;rw[<-HE2.out.1]at q2;have q1:=q.1;unfold tX at q1;have q3:=((of_decide_eq_true q1).2.2 k HE2.out.2.2).1;rw[<-HE2.out.1]at q3;rw[wN.2 ⟨q3,q2⟩]at oL;cases oL
    go_upto_region 6 with fail
    generalize wr.alloc (.cells #[.slice aL zL.length cL,.slice aR zR.length cR] 91)=W at *;have c0:=bQ W wr.heap.size 0 _ _ _ hbW;have c1:=bQ W wr.heap.size 1 _ _ _ hbW;simp only[gE]at c0 c1;go_wp2_with (go_at_call 99;refine(qj _ zL k _ HI.out.1).mono ?_;rintro e w2 ⟨he,hx2⟩;rw[oL]at he;subst he)
    go_ret
    exact⟨false,rfl,⟨λh=>(by cases h),λh=>absurd h HN.out⟩,ah hE (ah Kc hx2)⟩
   |true=>
    cases oR:Co zR (k:Int)with
    |false=>
     have HN:Hid (¬nO Z):=aW λq=>by
      have q2:=(q.2.1 k HE2.out.2.2).2;rw[<-HE2.out.2.1]at q2;have q1:=q.1;unfold tX at q1;have q3:=((of_decide_eq_true q1).2.2 k HE2.out.2.2).2;rw[<-HE2.out.2.1]at q3;rw[wN.2 ⟨q3,q2⟩]at oR;cases oR
     go_upto_region 6 with fail
     generalize wr.alloc (.cells #[.slice aL zL.length cL,.slice aR zR.length cR] 91)=W at *;have c0:=bQ W wr.heap.size 0 _ _ _ hbW;have c1:=bQ W wr.heap.size 1 _ _ _ hbW;simp only[gE]at c0 c1
     go_wp2_with (first
      |(go_at_call 99;refine(qj _ zR k _ (HI.out.2.ext hx2)).mono ?_;rintro e w3 ⟨he,hx3⟩;rw[oR]at he;subst he)
      |(go_at_call 99;refine(qj _ zL k _ HI.out.1).mono ?_;rintro e w2 ⟨he,hx2⟩;rw[oL]at he;subst he;have d1:=fw hx2 c1))
     go_ret
     exact⟨false,rfl,⟨λh=>(by cases h),λh=>absurd h HN.out⟩,ah hE (ah Kc (ah hx2 hx3))⟩
    |true=>
     have HN:Hid (∀i (h:i<Z.length),i<k+1->((Z[i]).1.length<=24/\uT (Z[i]).1 i)/\((Z[i]).2.length<=24/\uT (Z[i]).2 i)):=aW λi h hik=>by
      by_cases c:i=k
      .subst c
       have e1:=wN.1 oL;have e2:=wN.1 oR;rw[HE2.out.1]at e1;rw[HE2.out.2.1]at e2;exact⟨e1,e2⟩
      .exact HJ.out i h (by omega)
     go_upto_region 6 with fail
     generalize wr.alloc (.cells #[.slice aL zL.length cL,.slice aR zR.length cR] 91)=W at *;have c0:=bQ W wr.heap.size 0 _ _ _ hbW;have c1:=bQ W wr.heap.size 1 _ _ _ hbW;simp only[gE]at c0 c1
     go_wp2_with (first
      |(go_at_call 99;refine(qj _ zR k _ (HI.out.2.ext hx2)).mono ?_;rintro e w3 ⟨he,hx3⟩;rw[oR]at he;subst he)
      |(go_at_call 99;refine(qj _ zL k _ HI.out.1).mono ?_;rintro e w2 ⟨he,hx2⟩;rw[oL]at he;subst he;have d1:=fw hx2 c1))
     go_roundw
     case rel=>exact⟨k+1,by omega,by go_num,ah (ah hx Kc) (ah hx2 hx3),HN⟩
     case measure=>simp[intOf];omega
  .have h1:¬(((k:Nat):Int)<((F.length:Nat):Int)):=by omega
   have hAR:Gf Z:=λi h=>by have q:=HJ.out i h (by have:=Zz.out.2;omega);exact⟨q.1.2,q.2.2⟩
   have HFZ:Hid (tX Z=true):=aW (decide_eq_true ⟨by have:=Zz.out.2;omega,by have:=Zz.out.2;omega,λi h=>by have q:=HJ.out i h (by have:=Zz.out.2;omega);exact⟨q.1.1,q.2.1⟩⟩);have hf:dI w 0 (.slice aF F.length gH) F:=by
    have:=HZ.out.nodes (xA hAR);rw[<-Zz.out.1]at this;rw[Zz.out.2];exact this
   obtain⟨LV,Fz⟩:=IP hAR;rw[<-Zz.out.1]at LV Fz;have HIF:=aW (bE.Ow (fV.1 l1) LV Fz);have HGZ:Hid (nO Z↔bI F):=aW (by
    have e:=Zz.out.1;constructor
    .intro q;rw[e];exact q.2.2
    .intro q;rw[e]at q;exact⟨HFZ.out,hAR,q⟩)
   have zP:=aW LV;clear HJ hAR HFZ Fz;have hbr:=fw hx hbx;have HB:=aW (PQ (.slice aF F.length gH) F wr (hf.ext (ah hxb hx)) LV (by omega));go_upto_region 10 with(go_at_call 100;refine HB.out.mono ?_;rintro e wb ⟨vb,rfl,hob,hxB⟩)
   have hE:=ah (ah hxb hx) hxB;have hbb:=fw hxB hbr;obtain⟨ab,cb,rfl,ahc,atw⟩:=bT hob;clear hbr hbx hx hxb hxB HB h1 hk LV;obtain⟨wz,hwz⟩:=fu wr.heap.size;rw[<-hwz]at hob;clear hwz;go_wp2
   go_loopw [6,7,8] (λzi _ _ wr=>∃k:Nat,1<=k/\k<=F.length/\zi=.int .i64 ((k:Nat):Int)/\Ext wb wr/\Hid (∀i,i+1<k->bE.Ahead F i (i+1))) (λzi _ _ _=>F.length-(intOf zi).toNat)
   case atStart=>exact⟨1,aJ _,l1,by go_num,gz _ _,aW λi h=>absurd h (by omega)⟩
   case round=>
    obtain⟨k,hk1,hk,rfl,hx,HJ⟩:=hrel;have hbr:=fw hx hbb;by_cases hlt:k<F.length
    .have h1:((k:Nat):Int)<((F.length:Nat):Int):=by omega
     obtain⟨j,rfl⟩:∃j,k=j+1:=⟨k-1,by omega⟩;have hj:j<F.length:=(by omega);obtain⟨bF,cF,aL,cL,aR,cR,he,Nh,cl,cr,vM,vJ⟩:=hf.at hj;obtain⟨bF2,cF2,JZ,JU,Km,Kk,he2,atC,cl2,Zo,ag2,ag1⟩:=hf.at hlt;simp only[il]at he;obtain⟨rfl,-,rfl⟩:=he;simp only[il,bU,Addr.mk.injEq,and_true,true_and]at he2;obtain⟨rfl,rfl⟩:=he2;have hEr:=ah hE hx;have cl':=fw hEr cl;have MC:=fw hEr cr;have MI:=fw hEr cl2;have MB:=fw hEr Zo;have HI:=nY (And.intro (vM.ext hEr) (vJ.ext hEr)) (ag2.ext hEr) (ag1.ext hEr);have hwk:wrap64 ((j:Nat):Int)=((j:Nat):Int):=(by unfold wrap64;omega);have asI:IntKind.i64.wrap ((j:Nat):Int)=((j:Nat):Int):=(l9 _).trans hwk;have hj0:(0:Int)<=((j:Nat):Int)+1:=(by omega);have L9:((j:Nat):Int)<(F.length:Int):=(by omega);have HF:=aW hf;clear cl cr cl2 Zo vM vJ ag2 ag1 hf;go_upto_region 13 with fail
     go_cut [7,8] (λx y wc=>∃pa pb,x=.pointer (some ⟨pa,0,none⟩)/\y=.pointer (some ⟨pb,0,none⟩)/\Ext wr wc/\wc.cell? ⟨pa,0,none⟩=some (.slice aL (F[j]).1.length cL)/\wc.cell? ⟨pa,1,none⟩=some (.slice aR (F[j]).2.length cR)/\wc.cell? ⟨pb,0,none⟩=some (.slice JZ (F[j+1]).1.length JU)/\wc.cell? ⟨pb,1,none⟩=some (.slice Km (F[j+1]).2.length Kk))
     case first=>
      refine oJ (λV=>V.cell? ⟨w.heap.size,0,none⟩=some (.slice (some ⟨bF,0,none⟩) F.length gH)/\V.cell? ⟨bF,j*2,none⟩=some (.slice aL (F[j]).1.length cL)/\V.cell? ⟨bF,j*2+1,none⟩=some (.slice aR (F[j]).2.length cR)/\V.cell? ⟨bF,(j+1)*2,none⟩=some (.slice JZ (F[j+1]).1.length JU)/\V.cell? ⟨bF,(j+1)*2+1,none⟩=some (.slice Km (F[j+1]).2.length Kk)) [14] Vv ⟨hbr,cl',MC,MI,MB⟩ (λaj ae=>?_);(refine bP 0 aj ae ?_;refine bP 1 aj ae ?_;refine bP 2 aj ae ?_;refine bP 3 aj ae ?_;refine bP 4 aj ae ?_;refine bP 5 aj ae ?_;refine bP 6 aj ae ?_;refine bP 7 aj ae ?_;refine bP 8 aj ae ?_;refine bP 9 aj ae ?_;refine bP 10 aj ae ?_);refine gX aj (i:=11) (j:=12) (by kernel_rfl) ?_ ?_
      ·(refine ui (i:=11) λK hK=>?_;go_simp)
       (refine hK.out _ _ (λ_=>?_) ?_)
       .exact⟨aI hbr _,aI cl' _,aI MC _,aI MI _,aI MB _⟩
       clear hK K;(try simp only[nP]);(refine jv aj (i:=12) λK hK=>?_;go_simp);(refine hK.out _ _ (λ_=>?_) ?_)
       .exact⟨aI (aI hbr _) _,aI (aI cl' _) _,aI (aI MC _) _,aI (aI MI _) _,aI (aI MB _) _⟩
       clear hK K;(try simp only[nP]);(refine jv aj (i:=13) λK hK=>?_;go_simp);(refine hK.out _ _ (λ_=>?_) ?_)
       .exact⟨aI (aI hbr _) _,aI (aI cl' _) _,aI (aI MC _) _,aI (aI MI _) _,aI (aI MB _) _⟩
       clear hK K;(try simp only[nP]);refine nQ aj [14] [_] ?_;clear aj ae;go_wp2
       go_meet
       exact⟨wr.heap.size,wr.heap.size+1,rfl,rfl,ah (bY (bY (gz _ _) _) _) (dQ ⟨1,rfl⟩),aI (new2_0 wr _ _ _) _,aI (new2_1 wr _ _ _) _,new3_0 wr _ _ _ _,new3_1 wr _ _ _ _⟩
      ·(refine ui (i:=12) λK hK=>?_;go_simp)
       (refine hK.out _ _ (λ_=>?_) ?_)
       .exact⟨aI hbr _,aI cl' _,aI MC _,aI MI _,aI MB _⟩
       clear hK K;(try simp only[nP]);(refine jv aj (i:=11) λK hK=>?_;go_simp);(refine hK.out _ _ (λ_=>?_) ?_)
       .exact⟨aI (aI hbr _) _,aI (aI cl' _) _,aI (aI MC _) _,aI (aI MI _) _,aI (aI MB _) _⟩
       clear hK K;(try simp only[nP]);(refine jv aj (i:=13) λK hK=>?_;go_simp);(refine hK.out _ _ (λ_=>?_) ?_)
       .exact⟨aI (aI hbr _) _,aI (aI cl' _) _,aI (aI MC _) _,aI (aI MI _) _,aI (aI MB _) _⟩
       clear hK K;(try simp only[nP]);refine nQ aj [14] [_] ?_;clear aj ae;go_wp2
       go_meet
       exact⟨wr.heap.size+1,wr.heap.size,rfl,rfl,ah (bY (bY (gz _ _) _) _) (dQ ⟨1,rfl⟩),new3_0 wr _ _ _ _,new3_1 wr _ _ _ _,aI (new2_0 wr _ _ _) _,aI (new2_1 wr _ _ _) _⟩
     case rest=>
      obtain⟨pa,pb,rfl,rfl,Cx,p0,p1,q0,q1⟩:=hcut;have aaj:=ah hx Cx;obtain⟨gb,cb',e,atv,atu,adJ⟩:=iy hob (by omega);simp only[il,true_and]at e;obtain⟨rfl,rfl⟩:=e;have b0:=(adJ j (by omega)).trans (Yr hj);have b1:=(adJ (j+1) (by omega)).trans (Yr hlt);replace b0:=fw aaj b0;replace b1:=fw aaj b1;have HC:=nY (And.intro (HI.out.1.1.ext Cx) (HI.out.1.2.ext Cx)) (HI.out.2.1.ext Cx) (HI.out.2.2.ext Cx);have HW1:=aW (zP.out j _ (af hj));have HW2:=aW (zP.out (j+1) _ (af hlt));have hs:∀x:Nat,x<j+1->x<900000000:=λx hx=>by omega
      have HS:=aW hs;obtain⟨ba,Rc⟩:=fu (bE.born (vl F j));obtain⟨bb,GI⟩:=fu (bE.born (vl F (j+1)));have HAH:=jm (@Yz F j (j+1) hj hlt) (@VP F j (j+1) hj hlt);rw[<-Rc]at b0 HAH;rw[<-GI]at b1 HAH;clear Rc GI adJ hob cl' MC MI MB hs;go_upto_region 14 with fail
      refine oJ (λV=>(V.cell? ⟨gb,j,none⟩=some (.int .i64 (ba:Int))/\V.cell? ⟨gb,j+1,none⟩=some (.int .i64 (bb:Int)))/\V.cell? ⟨pa,0,none⟩=some (.slice aL (F[j]).1.length cL)/\V.cell? ⟨pa,1,none⟩=some (.slice aR (F[j]).2.length cR)/\V.cell? ⟨pb,0,none⟩=some (.slice JZ (F[j+1]).1.length JU)/\V.cell? ⟨pb,1,none⟩=some (.slice Km (F[j+1]).2.length Kk)) [20,21,22] Vu ⟨⟨b0,b1⟩,p0,p1,q0,q1⟩ (λaj ae=>?_);(refine bP 0 aj ae ?_;refine bP 1 aj ae ?_;refine bP 2 aj ae ?_;refine bP 3 aj ae ?_;refine bP 4 aj ae ?_;refine bP 5 aj ae ?_;refine bP 6 aj ae ?_;refine bP 7 aj ae ?_;refine bP 8 aj ae ?_;refine bP 10 aj ae ?_;refine bP 11 aj ae ?_;refine bP 12 aj ae ?_;refine bP 13 aj ae ?_;refine bP 15 aj ae ?_;refine bP 16 aj ae ?_;refine bP 17 aj ae ?_;refine bP 18 aj ae ?_);(refine jv aj (i:=9) λK hK=>?_;go_simp);refine(Tryz.cmp_Compare_int _ _ _).mono ?_;rintro e w2 ⟨rfl,hw2⟩;subst hw2;(refine hK.out _ _ (λ_=>?_) ?_)
      .exact ae
      clear hK K;(try simp only[nP]);(refine jv aj (i:=14) λK hK=>?_;go_simp);refine(nI _ _ (F[j]).1 (F[j+1]).1 _ (HC.out.1.1.ext (dQ ⟨1,rfl⟩)) (HC.out.2.1.ext (dQ ⟨1,rfl⟩)) (λx hx=>HS.out x (by have:=HW1.out.1 x hx;omega)) (λx hx=>HS.out x (by have:=HW2.out.1 x hx;omega))).mono ?_;rintro e w2 ⟨rfl,n2,rfl⟩;(refine hK.out _ _ (λ_=>?_) ?_)
      .exact ae
      clear hK K;(try simp only[nP]);(refine jv aj (i:=19) λK hK=>?_;go_simp);refine(nI _ _ (F[j]).2 (F[j+1]).2 _ (HC.out.1.2.ext (dQ ⟨1+n2,by rw[<-World.drewN_drewN]⟩)) (HC.out.2.2.ext (dQ ⟨1+n2,by rw[<-World.drewN_drewN]⟩)) (λx hx=>HS.out x (by have:=HW1.out.2 x hx;omega)) (λx hx=>HS.out x (by have:=HW2.out.2 x hx;omega))).mono ?_;rintro e w3 ⟨rfl,n3,rfl⟩;(refine hK.out _ _ (λ_=>?_) ?_)
      .exact ae
      clear hK K;(try simp only[nP]);refine nQ aj [20,21,22] [_,_,_] ?_;clear aj ae;by_cases hng:(0:Int)<=Dq (Lib.compareInt (ba:Int) (bb:Int)) (bE.cl (F[j]).1 (F[j+1]).1) (bE.cl (F[j]).2 (F[j+1]).2)
      .have HN:Hid (¬nO Z):=aW λq=>by
        have:=HAH.out.1 ((HGZ.out.1 q).sorted j (j+1) (by omega) hlt);omega
       go_wp2_with (go_at_call 101;refine(FP _ (Lib.compareInt (ba:Int) (bb:Int)) (bE.cl (F[j]).1 (F[j+1]).1) (bE.cl (F[j]).2 (F[j+1]).2) _ (newc_0 _ _ _ _ _) (newc_1 _ _ _ _ _) (newc_2 _ _ _ _ _)).mono ?_;rintro e w5 ⟨rfl,n5,rfl⟩)
       go_ret
       exact⟨false,rfl,⟨λh=>(by cases h),λh=>absurd h HN.out⟩,ah hE (eH (bY (ah aaj (dQ ⟨1+n2+n3,by rw[<-World.drewN_drewN,<-World.drewN_drewN]⟩)) _) _)⟩
      .have HAN:=aW (HAH.out.2 (by omega))
       go_wp2_with (go_at_call 101;refine(FP _ (Lib.compareInt (ba:Int) (bb:Int)) (bE.cl (F[j]).1 (F[j+1]).1) (bE.cl (F[j]).2 (F[j+1]).2) _ (newc_0 _ _ _ _ _) (newc_1 _ _ _ _ _) (newc_2 _ _ _ _ _)).mono ?_;rintro e w5 ⟨rfl,n5,rfl⟩)
       go_roundw
       case rel=>exact⟨j+1+1,by omega,by omega,by go_num,eH (bY (ah aaj (dQ ⟨1+n2+n3,by rw[<-World.drewN_drewN,<-World.drewN_drewN]⟩)) _) _,aW λi hi=>by
        by_cases c:i=j
        .subst c;exact HAN.out
        .exact HJ.out i (by omega)⟩
       case measure=>simp[intOf];omega
    .have h1:¬(((k:Nat):Int)<((F.length:Nat):Int)):=by omega
     have hke:k=F.length:=(by omega);have hEr:=ah hE hx;have HU:Hid (∀V,Ext w V->Calls prog 105 #[.slice aF F.length gH,.int .i64 ((F.length:Int)-1)] V (RB F (F.length-1) V)):=λV hV=>by
      have:=KA (.slice aF F.length gH) F (F.length-1) V (hf.ext hV) zP.out (by omega) (by omega);rw[show((F.length-1:Nat):Int)=(F.length:Int)-1 by omega]at this;exact this
     have HE:=aW hEr;have HJ2:Hid (∀i,i+1<F.length->bE.Ahead F i (i+1)):=aW λi hi=>HJ.out i (by omega)
     clear hf hEr hE hx HJ hke
     go_wp2_with (first
      |(go_at_call 104;refine(JP _ B3 _ _ (by rw[hBl];exact ho2) (by omega)).mono ?_;rintro e w4 ⟨c4,rfl,hc4,q,rfl⟩)
      |(go_at_call 105;refine(HU.out _ HE.out).mono ?_;rintro e w3 ⟨v3,B3,rfl,ho2,hx3,hBl,hB3⟩;have hz3:=ah HE.out hx3;have HB3:=aW hB3;clear hB3))
     go_ret
     refine⟨!c4,rfl,?_,eH hz3 _⟩;rw[HGZ.out,HIF.out];constructor
     .intro h
      refine⟨HJ2.out,λi hi=>(HB3.out i).1 ?_⟩;have hi':i<B3.length:=(by omega);rw[af hi'];cases hb:B3[i]with
      |true=>rfl
      |false=>
       have:c4=true:=hc4.2 (by rw[<-hb];exact ai hi');rw[this]at h;cases h
     .rintro⟨_,h⟩
      cases c4 with
      |false=>rfl
      |true=>
       obtain⟨i,hi,e⟩:=aQ.1 (hc4.1 rfl);have:=(HB3.out i).2 (h i (by omega));rw[af hi,e]at this;cases this
theorem ni(v:Value)(F:dh)(w:World)(hf:dI w 0 v F)(hF:bI F)(hfit:dm F=true):Calls prog 54 #[.agg #[v]] w λe w'=>e=.returned (.bool true)/\Ext w w':=by
 refine(zK v (qV F) w hf.dB).mono ?_;rintro e w' ⟨b,rfl,hb,hx⟩;exact⟨by rw[hb.2 ((FJ hF).2 hfit)],hx⟩
end
