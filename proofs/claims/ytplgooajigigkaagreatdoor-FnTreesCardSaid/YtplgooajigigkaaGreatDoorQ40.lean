/- 40 -/
import Derived.Test.YtplgooajigigkaaGreatDoorQ39
set_option maxRecDepth 100000
set_option maxHeartbeats 4000000
namespace Go.Proofs.YtplgooajigigkaaGreatDoor
open Tryz
section
open Go.RowKit
def Vo(O:List Int)(j:Nat):Int:=if j=0 then -1 else dD O (j-1)
def yV(O:List Int)(n:Int):Bool:=decide (O.length<=24/\∀j,j<O.length->Vo O j<dD O j/\dD O j<n)
theorem ny(v:Value)(O:List Int)(n:Int)(w:World)(hv:Ints w v O):Calls prog 99 #[v,.int .i64 n] w λe w'=>e=.returned (.bool (yV O n))/\Ext w w':=by
 obtain⟨a,cap,rfl,hlc,hcap,hc⟩:=hv;obtain⟨r,hr⟩:=eu (yV O n);have HR:=aI hr;rw[<-hr];clear hr;go_enter Tryz.func99,Tryz.ntmps99
 by_cases h24:(24:Int)<((O.length:Nat):Int)
 .have hf:r=false:=by rw[HR.out];exact decide_eq_false λk=>by omega
  subst hf;go_wp2
  go_ret
  exact⟨rfl,fJ _ _⟩
 .go_wp2
  go_loopw [5,7,13] (λlv _ ii wr=>∃(k:Nat) (z:Int),k<=O.length/\ii=.int .i64 ((k:Nat):Int)/\lv=.int .i64 z/\Ext w wr/\Hid (z=Vo O k)/\Hid (∀j,j<k->Vo O j<dD O j/\dD O j<n)) (λ_ _ ii _=>O.length-(intOf ii).toNat)
  case atStart=>exact⟨0,-1,az _,rfl,rfl,fJ _ _,rfl,λj h=>by omega⟩
  case round=>
   obtain⟨k,z,hk,rfl,rfl,hx,HZ,HJ⟩:=hrel;by_cases hlt:k<O.length
   .have h1:((k:Nat):Int)<((O.length:Nat):Int):=by omega
    obtain⟨b,off,rfl,hcell⟩:=hc (by omega);have hck:=hcell k hlt;have lK:=dP hx hck;obtain⟨x,hxe⟩:=eu (dD O k);rw[<-hxe]at hck lK;have hgd:dD O k=x:=hxe.symm;have Yh:=aI hgd;have Qn:=aI hlt;clear hcell hxe hck hgd hlt;by_cases h2:x<=z
    .have hf:r=false:=by
      rw[HR.out];exact decide_eq_false λq=>by
       have:=(q.2 k Qn.out).1;rw[Yh.out,<-HZ.out]at this;omega
     subst hf;go_wp2
     go_ret
     exact⟨rfl,hx⟩
    .by_cases h3:n<=x
     .have hf:r=false:=by
       rw[HR.out];exact decide_eq_false λq=>by
        have:=(q.2 k Qn.out).2;rw[Yh.out]at this;omega
      subst hf;go_wp2
      go_ret
      exact⟨rfl,hx⟩
     .have HN:Hid (∀j,j<k+1->Vo O j<dD O j/\dD O j<n):=λj hj=>by
       by_cases e:j=k
       .subst e;rw[Yh.out,<-HZ.out];omega
       .exact HJ.out j (by omega)
      have HP:Hid (x=Vo O (k+1)):=by
       show x=_;unfold Vo;rw[if_neg (by omega),jE,Yh.out]
      have hl2:=Qn.out;go_wp2
      go_roundw
      case rel=>exact⟨k+1,x,by omega,by go_num,rfl,hx,HP,HN⟩
      case measure=>simp[intOf];omega
   .have h1:¬(((k:Nat):Int)<((O.length:Nat):Int)):=by omega
    have hf:r=true:=by
     rw[HR.out];exact decide_eq_true ⟨by omega,λj hj=>HJ.out j (by omega)⟩
    subst hf;go_wp2
    go_ret
    exact⟨rfl,hx⟩
end
section
open Go.RowKit
open aZ (cZ Nd vl)
variable {w:World} {v:Value}
abbrev Ml:=List Int × List Int
def qj(w:World)(v:Value)(F:List Ml):Prop:=∃a cap,v=.slice a F.length cap/\F.length<=cap/\F.length<=maxLen/\
 (0<F.length->∃b,a=some ⟨b,0,none⟩/\∀i (h:i<F.length),∃L R,w.cell? ⟨b,i*2,none⟩=some L/\w.cell? ⟨b,i*2+1,none⟩=some R/\Ints w L (F[i]).1/\Ints w R (F[i]).2/\
  (∀b,L.ownBlock=some b->b<w.heap.size)/\(∀b,R.ownBlock=some b->b<w.heap.size))
theorem qj.ext{w w':World}{v:Value}{F:List Ml}(h:qj w v F)(hx:Ext w w'):qj w' v F:=by
 obtain⟨a,cap,rfl,h1,h2,h3⟩:=h;refine⟨a,cap,rfl,h1,h2,λh0=>?_⟩;obtain⟨b,rfl,hc⟩:=h3 h0;refine⟨b,rfl,λi hi=>?_⟩;obtain⟨L,R,c1,c2,c3,c4,c5,c6⟩:=hc i hi;have hz:=hx.size;exact⟨L,R,dP hx c1,dP hx c2,c3.ext hx,c4.ext hx,λb hb=>by have:=c5 b hb;omega,λb hb=>by have:=c6 b hb;omega⟩
theorem qj.at{F:List Ml}(h:qj w v F){i:Nat}(hi:i<F.length):
 ∃b cap aL cL aR cR,v=.slice (some ⟨b,0,none⟩) F.length cap/\F.length<=cap/\w.cell? ⟨b,i*2,none⟩=some (.slice aL (F[i]).1.length cL)/\w.cell? ⟨b,i*2+1,none⟩=some (.slice aR (F[i]).2.length cR)/\
  Ints w (.slice aL (F[i]).1.length cL) (F[i]).1/\Ints w (.slice aR (F[i]).2.length cR) (F[i]).2:=by
 obtain⟨a,cap,rfl,h1,h2,h3⟩:=h;obtain⟨b,rfl,hc⟩:=h3 (by omega);obtain⟨L,R,c1,c2,c3,c4,c5,c6⟩:=hc i hi;obtain⟨aL,cL,rfl,-⟩:=id c3;obtain⟨aR,cR,rfl,-⟩:=id c4;exact⟨b,cap,aL,cL,aR,cR,rfl,h1,c1,c2,c3,c4⟩
def toN(l:List Int):List Nat:=l.map Int.toNat
theorem MG{l:List Int}(h:∀x,x∈l->0<=x):bV (toN l)=l:=by
 unfold bV toN;rw[eP]
 conv=>rhs;rw[<-o6 l]
 exact bE λx hx=>by have:=h x hx;simp;omega
def nM(F:List Ml):cZ:=F.map λnd=>(toN nd.1,toN nd.2)
theorem qj.nodes{F:List Ml}(h:qj w v F)(hp:∀nd,nd∈F->(∀x,x∈nd.1->0<=x)/\∀x,x∈nd.2->0<=x):eZ w 0 v (nM F):=by
 obtain⟨a,cap,rfl,h1,h2,h3⟩:=h;have hl:(nM F).length=F.length:=by simp[nM]
 refine⟨a,cap,by rw[hl],by omega,by omega,λh0=>?_⟩;obtain⟨b,rfl,hc⟩:=h3 (by omega);refine⟨b,rfl,az _,λi hi=>?_⟩;obtain⟨L,R,c1,c2,c3,c4,c5,c6⟩:=hc i (by omega);have hq:=hp _ (aj (show i<F.length by omega));have e:(nM F)[i]=(toN (F[i]'(by omega)).1,toN (F[i]'(by omega)).2):=by simp[nM]
 rw[e];exact⟨L,R,c1,c2,by rw[MG hq.1];exact c3,by rw[MG hq.2];exact c4,λb hb=>⟨az _,c5 b hb⟩,λb hb=>⟨az _,c6 b hb⟩⟩
theorem N9(D:cZ):nM (D.map λnd=>(bV nd.1,bV nd.2))=D:=by
 unfold nM;rw[eP]
 conv=>rhs;rw[<-o6 D]
 exact bE λnd _=>by
  show(toN (bV nd.1),toN (bV nd.2))=nd;have:∀l:List Nat,toN (bV l)=l:=λl=>by
   unfold toN bV;rw[eP]
   conv=>rhs;rw[<-o6 l]
   exact bE λx _=>rfl
  rw[this,this]
def tQ(D:cZ):List Ml:=D.map λnd=>(bV nd.1,bV nd.2)
theorem eZ.bV{w:World}{v:Value}{F:cZ}(h:eZ w 0 v F):qj w v (tQ F):=by
 obtain⟨a,cap,rfl,h1,h2,h3⟩:=h;have hl:(tQ F).length=F.length:=by simp[tQ]
 refine⟨a,cap,by rw[hl],by omega,by omega,λh0=>?_⟩;obtain⟨b,rfl,-,hc⟩:=h3 (by omega);refine⟨b,rfl,λi hi=>?_⟩;obtain⟨L,R,c1,c2,c3,c4,c5,c6⟩:=hc i (by omega);have e:(tQ F)[i]=(Go.Proofs.YtplgooajigigkaaGreatDoor.bV (F[i]'(by omega)).1,Go.Proofs.YtplgooajigigkaaGreatDoor.bV (F[i]'(by omega)).2):=by simp[tQ]
 rw[e];exact⟨L,R,c1,c2,c3,c4,λb hb=>(c5 b hb).2,λb hb=>(c6 b hb).2⟩
end
section
open Go.RowKit
open aZ (cZ Nd vl Same eD)
variable {F:List Ml} {l:List Int} {k:Nat}
def qg(F:List Ml):Bool:=decide (1<=F.length/\F.length<=120/\∀i (h:i<F.length),(F[i]).1.length<=24/\(F[i]).2.length<=24)
theorem o8(F:List Ml):(nM F).length=F.length:=by simp[nM]
theorem xD{i:Nat}(h:i<F.length):(nM F)[i]'(by rw[o8];exact h)=(toN (F[i]).1,toN (F[i]).2):=by simp[nM]
theorem PE(F:List Ml):qg F=mP (nM F):=by
 unfold qg mP;have e:=o8 F;refine decide_eq_decide.2 (and_congr (by rw[e]) (and_congr (by rw[e]) ⟨λh i hi=>?_,λh i hi=>?_⟩))
 .have:=h i (by omega)
  rw[xD (by omega)];simpa [toN]using this
 .have:=h i (by omega)
  rw[xD (by omega)]at this;simpa [toN]using this
def qP(l:List Int)(k:Nat):Prop:=∀j,j<l.length->0<=dD l j/\dD l j<(k:Int)/\(0<j->dD l (j-1)<dD l j)
def CK(F:List Ml):Prop:=∀k (h:k<F.length),qP (F[k]).1 k/\qP (F[k]).2 k
def qH(F:List Ml):Prop:=qg F=true/\CK F/\eD (nM F)
theorem xI(h:qP l k):∀x,x∈l->0<=x/\x<(k:Int):=λx hx=>by
 obtain⟨j,hj,rfl⟩:=aH.1 hx;obtain⟨h1,h2,_⟩:=h j hj;have e:dD l j=l[j]:=by simp[dD,hj]
 rw[e]at h1 h2;exact⟨h1,h2⟩
theorem Hd(h:qP l k):aZ.Asc (toN l):=by
 refine bP.2 λi j hi hj hij=>?_
 have hl:(toN l).length=l.length:=by simp[toN]
 have key:∀d i,i+d<l.length->0<d->dD l i<dD l (i+d):=by
  intro d
  induction d with
  |zero=>intro i _ h0;omega
  |succ d ih=>
   intro i hi _;have s:=(h (i+(d+1)) hi).2.2 (by omega);rw[show i+(d+1)-1=i+d by omega]at s;by_cases e:d=0
   .subst e;exact s
   .exact Int.lt_trans (ih i (by omega) (by omega)) s
 have k1:=key (j-i) i (by omega) (by omega);rw[show i+(j-i)=j by omega]at k1;have e1:dD l i=l[i]:=by simp[dD,show i<l.length by omega]
 have e2:dD l j=l[j]:=by simp[dD,show j<l.length by omega]
 have p1:=(xI h _ (aj (show i<l.length by omega))).1;rw[e1,e2]at k1;simp only[toN,fT];omega
theorem Ex(h:CK F):aZ.WF (nM F)/\∀nd,nd∈nM F->aZ.Asc nd.1/\aZ.Asc nd.2:=by
 constructor
 .intro i nd hd
  obtain⟨hi,e⟩:=cK.1 hd;rw[o8]at hi;rw[xD hi]at e;subst e;have key:∀l:List Int,qP l i->∀k,k∈toN l->k<i:=λl hl k hk=>by
   obtain⟨x,hx,rfl⟩:=ay.1 hk;have:=xI hl x hx;omega
  exact⟨key _ (h i hi).1,key _ (h i hi).2⟩
 .intro nd hd
  obtain⟨i,hi,rfl⟩:=aH.1 hd;rw[o8]at hi;rw[xD hi];exact⟨Hd (h i hi).1,Hd (h i hi).2⟩
theorem Cv(h:CK F):∀nd,nd∈F->(∀x,x∈nd.1->0<=x)/\∀x,x∈nd.2->0<=x:=λnd hd=>by
 obtain⟨i,hi,rfl⟩:=aH.1 hd;exact⟨λx hx=>(xI (h i hi).1 x hx).1,λx hx=>(xI (h i hi).2 x hx).1⟩
theorem nS:rises l 0 ((k:Int)-1)=true↔qP l k:=by
 rw[ve];unfold Aw qP;exact⟨λh j hj=>by obtain⟨a,b,c⟩:=h j hj;exact⟨a,by omega,c⟩,λh j hj=>by obtain⟨a,b,c⟩:=h j hj;exact⟨a,by omega,c⟩⟩
theorem zK(vf:Value)(F:List Ml)(w:World)(hf:qj w vf F):Calls prog 109 #[.agg #[vf]] w λe w'=>e=.returned (.bool (qg F))/\Ext w w':=by
 obtain⟨aF,fI,rfl,hcap,yH,-⟩:=id hf;go_enter Tryz.func109,Tryz.ntmps109
 go_wp2
 have hxb:Ext w (w.alloc (.cells #[.slice aF F.length fI] 30)):=by go_grown
 have hbx:=bI (w.alloc (.cells #[.slice aF F.length fI] 30)) w.heap.size 0 _ _ _ (dV w _);generalize hW:w.alloc (.cells #[.slice aF F.length fI] 30)=W at *;generalize hp:w.heap.size=p at *;clear hW hp;go_loopw [3] (λkk wr=>wr=W/\∃k,k<=F.length/\k<=121/\kk=.int .i64 ((k:Nat):Int)/\Hid (∀i (h:i<F.length),i<k->(F[i]).1.length<=24/\(F[i]).2.length<=24)) (λkk _=>F.length-(intOf kk).toNat)
 case atStart=>exact⟨rfl,0,az _,by omega,rfl,λi _ h=>absurd h (by omega)⟩
 case round=>
  obtain⟨rfl,k,hk,hk2,rfl,HP⟩:=hrel;by_cases hlt:k<F.length
  .by_cases anv:k<=120
   .obtain⟨bF,cF,aL,cL,aR,cR,he,Qf,cl,cr,-,-⟩:=hf.at hlt
    simp only[gz]at he;obtain⟨rfl,-,rfl⟩:=he;have cl':=dP hxb cl;have LZ:=dP hxb cr;have h1:((k:Nat):Int)<(F.length:Int):=(by omega);have h2:((k:Nat):Int)<=120:=(by omega);clear cl cr hf;by_cases hl:(F[k]).1.length<=24
    .have hl1:¬((24:Int)<((F[k]).1.length:Int)):=by omega
     by_cases hr:(F[k]).2.length<=24
     .have hr1:¬((24:Int)<((F[k]).2.length:Int)):=by omega
      have HL:=aI hl;have HR:=aI hr;clear hl hr;go_wp2
      go_roundw
      case rel=>exact⟨trivial,k+1,by omega,by omega,by go_num,λi hi hik=>by
       by_cases e:i=k
       .subst e;exact⟨HL.out,HR.out⟩
       .exact HP.out i hi (by omega)⟩
      case measure=>simp[intOf];omega
     .have hr1:((24:Int)<((F[k]).2.length:Int)):=by omega
      have HR:=aI hr;clear hl hr;go_wp2
      go_ret
      exact⟨dI (by symm;rw[qg];exact decide_eq_false (λh=>HR.out (h.2.2 k hlt).2)),hxb⟩
    .have hl1:((24:Int)<((F[k]).1.length:Int)):=by omega
     have HL:=aI hl;clear hl;go_wp2
     go_ret
     exact⟨dI (by symm;rw[qg];exact decide_eq_false (λh=>HL.out (h.2.2 k hlt).1)),hxb⟩
   .have h1:((k:Nat):Int)<(F.length:Int):=by omega
    have h2:¬(((k:Nat):Int)<=120):=(by omega);go_wp2_with (go_at_call 92;refine(jg _ _ _ _).mono ?_;rintro e w1 ⟨rfl,n,rfl⟩)
    go_ret
    refine⟨dI ?_,dG hxb _⟩;have:qg F=false:=(by rw[qg];exact decide_eq_false (λh=>by omega));rw[this];simp[wD];omega
  .have h1:¬(((k:Nat):Int)<(F.length:Int)):=by omega
   go_wp2_with (go_at_call 92;refine(jg _ _ _ _).mono ?_;rintro e w1 ⟨rfl,n,rfl⟩)
   go_ret
   refine⟨dI ?_,dG hxb _⟩;have hall:=HP.out;rw[qg,wD,<-Bool.decide_and];refine decide_eq_decide.2 ⟨λh=>⟨by omega,by omega,λi hi=>hall i hi (by omega)⟩,λh=>⟨by omega,by omega⟩⟩
end
section
open Go.RowKit
open aZ (cZ Nd vl)
theorem Ce{F:cZ}(hF:aZ.eD F):qH (tQ F)↔mP F=true:=by
 have e:nM (tQ F)=F:=N9 F;unfold qH;rw[PE,e];refine⟨λh=>h.1,λh=>⟨h,λk hk=>?_,hF⟩⟩;have hk':k<F.length:=by simpa [tQ]using hk
 have e2:(tQ F)[k]=(bV (F[k]).1,bV (F[k]).2):=by simp[tQ]
 rw[e2];have h2:=Kk hF.good hk';exact⟨nS.1 h2.1,nS.1 h2.2⟩
end
section
open Go.RowKit
open aZ (cZ Nd Gm vl eD)
theorem rW{O:List Int}{k:Nat}:yV O (k:Int)=true↔O.length<=24/\qP O k:=by
 unfold yV qP;rw[decide_eq_true_eq];refine and_congr Iff.rfl ⟨λh j hj=>?_,λh j hj=>?_⟩
 .have pos:∀j,j<O.length->0<=dD O j:=λj=>by
   induction j with
   |zero=>intro hj;have:=(h 0 hj).1;unfold Vo at this;rw[if_pos rfl]at this;omega
   |succ j ih=>intro hj;have h1:=ih (by omega);have:=(h (j+1) hj).1;unfold Vo at this;rw[if_neg (by omega),jE]at this;omega
  exact⟨pos j hj,(h j hj).2,λh0=>by have:=(h j hj).1;unfold Vo at this;rwa [if_neg (by omega)]at this⟩
 .obtain⟨a,b,c⟩:=h j hj
  refine⟨?_,b⟩;unfold Vo;split
  .omega
  .exact c (by omega)
theorem Ro{F:cZ}{i j:Nat}(hi:i<F.length)(hj:j<F.length)(h:Aa (Lib.compareInt (aZ.born (vl F i):Int) (aZ.born (vl F j):Int)) (aZ.cl (F[i]).1 (F[j]).1) (aZ.cl (F[i]).2 (F[j]).2)<0):aZ.Ahead F i j:=by
 unfold aZ.Ahead;rw[aZ.mD hi,aZ.mD hj];rcases Nat.lt_trichotomy (aZ.born (vl F i)) (aZ.born (vl F j))with c|c|c
 .exact .inl c
 .have e:Lib.compareInt (aZ.born (vl F i):Int) (aZ.born (vl F j):Int)=0:=by rw[c];unfold Lib.compareInt;simp
  rw[e]at h;unfold Aa at h;rw[if_neg (by simp)]at h;exact .inr ⟨c,h⟩
 .have e:Lib.compareInt (aZ.born (vl F i):Int) (aZ.born (vl F j):Int)=1:=by unfold Lib.compareInt;rw[if_neg (by omega),if_pos (by omega)]
  rw[e]at h;simp[Aa]at h
def Q3:List Row:=[⟨0,[],51,[1]⟩,⟨1,[0],52,[50]⟩,⟨2,[],53,[6]⟩,⟨3,[2],54,[52]⟩,⟨4,[1,3],55,[51,53]⟩,⟨5,[4],56,[54]⟩,⟨6,[],57,[1]⟩,⟨7,[6],58,[56]⟩,⟨8,[],59,[6]⟩,⟨9,[7,8],60,[57,58]⟩,⟨10,[9],61,[59]⟩,⟨11,[],8,[]⟩,⟨12,[],9,[]⟩,⟨13,[11,5,0,1,2,3,4,5,11,12],0,[7,55]⟩,⟨14,[12,10,13,0,1,2,3,4,5,6,7,8,9,10,11,12,13],0,[8,60]⟩]
def Q0:List Row:=[⟨0,[],62,[5]⟩,⟨1,[],63,[6]⟩,⟨2,[1],64,[62]⟩,⟨3,[0,2],65,[61,63]⟩,⟨4,[3],66,[64]⟩,⟨5,[],67,[5]⟩,⟨6,[],68,[6]⟩,⟨7,[5,6],69,[66,67]⟩,⟨8,[7],70,[68]⟩,⟨9,[4,8],71,[65,69]⟩,⟨10,[],72,[7]⟩,⟨11,[10],73,[71]⟩,⟨12,[],74,[8]⟩,⟨13,[12],75,[73]⟩,⟨14,[11,13,9],76,[72,74]⟩,⟨15,[],77,[7]⟩,⟨16,[15],78,[76]⟩,⟨17,[],79,[8]⟩,⟨18,[17],80,[78]⟩,⟨19,[16,18,14],81,[77,79]⟩,⟨20,[9,14,19],82,[70,75,80]⟩,⟨21,[20,19],83,[81]⟩,⟨22,[21],84,[82]⟩]
theorem Df(v:Value)(Z:List Ml)(w:World)(hz:qj w v Z):Calls prog 54 #[.agg #[v]] w (CJ (qH Z) w):=by
 obtain⟨aF,fI,rfl,hcap,yH,-⟩:=id hz;obtain⟨F,VD⟩:=eu (nM Z);have Ak:F.length=Z.length:=by rw[VD,o8]
 have HZ:=aI hz;have VN:=jW VD Ak;rw[show(Value.slice aF Z.length fI)=Value.slice aF F.length fI by rw[Ak]];rw[<-Ak]at hcap yH;have hxb:Ext w (w.alloc (.cells #[.slice aF F.length fI] 30)):=by go_grown
 have hbx:=bI (w.alloc (.cells #[.slice aF F.length fI] 30)) w.heap.size 0 _ _ _ (dV w _);by_cases l1:1<=F.length/\F.length<=120
 case neg=>
  have HN:Hid (¬qH Z):=aI λk=>by
   have k1:=k.1;unfold qg at k1;have:=of_decide_eq_true k1;have:=VN.out.2;omega
  clear hz VD Ak;by_cases g0:(F.length:Int)<1
  .go_enter Tryz.func54,Tryz.ntmps54
   go_upto_region 1 with fail
   simp only[gE]at hbx;generalize w.alloc (.cells #[.slice aF F.length fI] 30)=W0 at *;go_wp2
   go_ret
   exact⟨false,rfl,⟨λh=>(by cases h),λh=>absurd h HN.out⟩,hxb⟩
  .have g2:((120:Int)<(F.length:Int)):=by omega
   go_enter Tryz.func54,Tryz.ntmps54
   go_upto_region 1 with fail
   simp only[gE]at hbx;generalize w.alloc (.cells #[.slice aF F.length fI] 30)=W0 at *;go_wp2
   go_ret
   exact⟨false,rfl,⟨λh=>(by cases h),λh=>absurd h HN.out⟩,hxb⟩
 case pos=>
 obtain⟨l1,l2⟩:=l1;have g1:¬((F.length:Int)<1):=by omega
 have g2:¬((120:Int)<(F.length:Int)):=by omega
 clear hz VD Ak;go_enter Tryz.func54,Tryz.ntmps54
 go_upto_region 1 with fail
 simp only[gE]at hbx;generalize w.alloc (.cells #[.slice aF F.length fI] 30)=W0 at *;go_wp2
 go_loopw [3,4,22] (λ_ _ ii wr=>∃k:Nat,k<=F.length/\ii=.int .i64 ((k:Nat):Int)/\Ext W0 wr/\Hid (∀i (h:i<Z.length),i<k->((Z[i]).1.length<=24/\qP (Z[i]).1 i)/\((Z[i]).2.length<=24/\qP (Z[i]).2 i))) (λ_ _ ii _=>F.length-(intOf ii).toNat)
 case atStart=>exact⟨0,az _,rfl,fJ _ _,aI λi _ h=>absurd h (by omega)⟩
 case round=>
  obtain⟨k,hk,rfl,hx,HJ⟩:=hrel;by_cases hlt:k<F.length
  .have h1:((k:Nat):Int)<((F.length:Nat):Int):=by omega
   have hlz:k<Z.length:=(by have:=VN.out.2;omega);obtain⟨bF,cF,aL,cL,aR,cR,he,Qf,cl,cr,C9,C8⟩:=HZ.out.at hlz;simp only[gz]at he;obtain⟨rfl,-,rfl⟩:=he;have hE:=ah hxb hx;have cl':=dP hE cl;have LZ:=dP hE cr;obtain⟨zL,YK⟩:=eu ((Z[k]).1);obtain⟨zR,YJ⟩:=eu ((Z[k]).2);rw[<-YK]at cl cl' C9;rw[<-YJ]at cr LZ C8;have HE2:=yD YK YJ hlz;have II:Ext wr (wr.alloc (.cells #[.slice aL zL.length cL,.slice aR zR.length cR] 91)):=(by go_grown);have hbW:=dV wr (.cells #[.slice aL zL.length cL,.slice aR zR.length cR] 91);have HI:=jW (C9.ext (ah hE II)) (C8.ext (ah hE II));clear cl cr C9 C8 YK YJ;cases oL:yV zL (k:Int)with
   |false=>
    have HN:Hid (¬qH Z):=aI λq=>by
     have q2:=(q.2.1 k HE2.out.2.2).1;rw[<-HE2.out.1]at q2;have q1:=q.1;unfold qg at q1;have q3:=((of_decide_eq_true q1).2.2 k HE2.out.2.2).1;rw[<-HE2.out.1]at q3;rw[rW.2 ⟨q3,q2⟩]at oL;cases oL
    go_upto_region 6 with fail
    generalize wr.alloc (.cells #[.slice aL zL.length cL,.slice aR zR.length cR] 91)=W at *;have c0:=bI W wr.heap.size 0 _ _ _ hbW;have c1:=bI W wr.heap.size 1 _ _ _ hbW;simp only[gE]at c0 c1;go_wp2_with (go_at_call 99;refine(ny _ zL k _ HI.out.1).mono ?_;rintro e w2 ⟨he,hx2⟩;rw[oL]at he;subst he)
    go_ret
    exact⟨false,rfl,⟨λh=>(by cases h),λh=>absurd h HN.out⟩,ah hE (ah II hx2)⟩
   |true=>
    cases oR:yV zR (k:Int)with
    |false=>
     have HN:Hid (¬qH Z):=aI λq=>by
      have q2:=(q.2.1 k HE2.out.2.2).2;rw[<-HE2.out.2.1]at q2;have q1:=q.1;unfold qg at q1;have q3:=((of_decide_eq_true q1).2.2 k HE2.out.2.2).2;rw[<-HE2.out.2.1]at q3;rw[rW.2 ⟨q3,q2⟩]at oR;cases oR
     go_upto_region 6 with fail
     generalize wr.alloc (.cells #[.slice aL zL.length cL,.slice aR zR.length cR] 91)=W at *;have c0:=bI W wr.heap.size 0 _ _ _ hbW;have c1:=bI W wr.heap.size 1 _ _ _ hbW;simp only[gE]at c0 c1
     go_wp2_with (first
      |(go_at_call 99;refine(ny _ zR k _ (HI.out.2.ext hx2)).mono ?_;rintro e w3 ⟨he,hx3⟩;rw[oR]at he;subst he)
      |(go_at_call 99;refine(ny _ zL k _ HI.out.1).mono ?_;rintro e w2 ⟨he,hx2⟩;rw[oL]at he;subst he;have d1:=dP hx2 c1))
     go_ret
     exact⟨false,rfl,⟨λh=>(by cases h),λh=>absurd h HN.out⟩,ah hE (ah II (ah hx2 hx3))⟩
    |true=>
     have HN:Hid (∀i (h:i<Z.length),i<k+1->((Z[i]).1.length<=24/\qP (Z[i]).1 i)/\((Z[i]).2.length<=24/\qP (Z[i]).2 i)):=aI λi h hik=>by
      by_cases c:i=k
      .subst c
       have e1:=rW.1 oL;have e2:=rW.1 oR;rw[HE2.out.1]at e1;rw[HE2.out.2.1]at e2;exact⟨e1,e2⟩
      .exact HJ.out i h (by omega)
     go_upto_region 6 with fail
     generalize wr.alloc (.cells #[.slice aL zL.length cL,.slice aR zR.length cR] 91)=W at *;have c0:=bI W wr.heap.size 0 _ _ _ hbW;have c1:=bI W wr.heap.size 1 _ _ _ hbW;simp only[gE]at c0 c1
     go_wp2_with (first
      |(go_at_call 99;refine(ny _ zR k _ (HI.out.2.ext hx2)).mono ?_;rintro e w3 ⟨he,hx3⟩;rw[oR]at he;subst he)
      |(go_at_call 99;refine(ny _ zL k _ HI.out.1).mono ?_;rintro e w2 ⟨he,hx2⟩;rw[oL]at he;subst he;have d1:=dP hx2 c1))
     go_roundw
     case rel=>exact⟨k+1,by omega,by go_num,ah (ah hx II) (ah hx2 hx3),HN⟩
     case measure=>simp[intOf];omega
  .have h1:¬(((k:Nat):Int)<((F.length:Nat):Int)):=by omega
   have XJ:CK Z:=λi h=>by have q:=HJ.out i h (by have:=VN.out.2;omega);exact⟨q.1.2,q.2.2⟩
   have HFZ:Hid (qg Z=true):=aI (decide_eq_true ⟨by have:=VN.out.2;omega,by have:=VN.out.2;omega,λi h=>by have q:=HJ.out i h (by have:=VN.out.2;omega);exact⟨q.1.1,q.2.1⟩⟩);have hf:eZ w 0 (.slice aF F.length fI) F:=by
    have:=HZ.out.nodes (Cv XJ);rw[<-VN.out.1]at this;rw[VN.out.2];exact this
   obtain⟨IP,Cc⟩:=Ex XJ;rw[<-VN.out.1]at IP Cc;have HIF:=aI (aZ.KU (lT.1 l1) IP Cc);have HGZ:Hid (qH Z↔eD F):=aI (by
    have e:=VN.out.1;constructor
    .intro q;rw[e];exact q.2.2
    .intro q;rw[e]at q;exact⟨HFZ.out,XJ,q⟩)
   have VH:=aI IP;clear HJ XJ HFZ Cc;have hbr:=dP hx hbx;have HB:=aI (Mf (.slice aF F.length fI) F wr (hf.ext (ah hxb hx)) IP (by omega));go_upto_region 10 with(go_at_call 100;refine HB.out.mono ?_;rintro e wb ⟨vb,rfl,hob,KY⟩)
   have hE:=ah (ah hxb hx) KY;have hbb:=dP KY hbr;obtain⟨ab,cb,rfl,ac7,amM⟩:=bu hob;clear hbr hbx hx hxb KY HB h1 hk IP;obtain⟨wz,hwz⟩:=eu wr.heap.size;rw[<-hwz]at hob;clear hwz;go_wp2
   go_loopw [6,7,8] (λzi _ _ wr=>∃k:Nat,1<=k/\k<=F.length/\zi=.int .i64 ((k:Nat):Int)/\Ext wb wr/\Hid (∀i,i+1<k->aZ.Ahead F i (i+1))) (λzi _ _ _=>F.length-(intOf zi).toNat)
   case atStart=>exact⟨1,ax _,l1,by go_num,fJ _ _,aI λi h=>absurd h (by omega)⟩
   case round=>
    obtain⟨k,hk1,hk,rfl,hx,HJ⟩:=hrel;have hbr:=dP hx hbb;by_cases hlt:k<F.length
    .have h1:((k:Nat):Int)<((F.length:Nat):Int):=by omega
     obtain⟨j,rfl⟩:∃j,k=j+1:=⟨k-1,by omega⟩;have hj:j<F.length:=(by omega);obtain⟨bF,cF,aL,cL,aR,cR,he,Qf,cl,cr,C9,C8⟩:=hf.at hj;obtain⟨bF2,PM,Ey,Et,F3,FT,he2,aai,cl2,Za,acZ,acY⟩:=hf.at hlt;simp only[gz]at he;obtain⟨rfl,-,rfl⟩:=he;simp only[gz,bN,Addr.mk.injEq,and_true,true_and]at he2;obtain⟨rfl,rfl⟩:=he2;have hEr:=ah hE hx;have cl':=dP hEr cl;have LZ:=dP hEr cr;have Jp:=dP hEr cl2;have Jl:=dP hEr Za;have HI:=yD (And.intro (C9.ext hEr) (C8.ext hEr)) (acZ.ext hEr) (acY.ext hEr);have hwk:wrap64 ((j:Nat):Int)=((j:Nat):Int):=(by unfold wrap64;omega);have al4:IntKind.i64.wrap ((j:Nat):Int)=((j:Nat):Int):=(oo _).trans hwk;have hj0:(0:Int)<=((j:Nat):Int)+1:=(by omega);have hjF:((j:Nat):Int)<(F.length:Int):=(by omega);have HF:=aI hf;clear cl cr cl2 Za C9 C8 acZ acY hf;go_upto_region 13 with fail
     go_cut [7,8] (λx y wc=>∃pa pb,x=.pointer (some ⟨pa,0,none⟩)/\y=.pointer (some ⟨pb,0,none⟩)/\Ext wr wc/\wc.cell? ⟨pa,0,none⟩=some (.slice aL (F[j]).1.length cL)/\wc.cell? ⟨pa,1,none⟩=some (.slice aR (F[j]).2.length cR)/\wc.cell? ⟨pb,0,none⟩=some (.slice Ey (F[j+1]).1.length Et)/\wc.cell? ⟨pb,1,none⟩=some (.slice F3 (F[j+1]).2.length FT))
     case first=>
      refine mQ (λV=>V.cell? ⟨w.heap.size,0,none⟩=some (.slice (some ⟨bF,0,none⟩) F.length fI)/\V.cell? ⟨bF,j*2,none⟩=some (.slice aL (F[j]).1.length cL)/\V.cell? ⟨bF,j*2+1,none⟩=some (.slice aR (F[j]).2.length cR)/\V.cell? ⟨bF,(j+1)*2,none⟩=some (.slice Ey (F[j+1]).1.length Et)/\V.cell? ⟨bF,(j+1)*2+1,none⟩=some (.slice F3 (F[j+1]).2.length FT)) [14] Q3 ⟨hbr,cl',LZ,Jp,Jl⟩ (λai aa=>?_);(refine bg 0 ai aa ?_;refine bg 1 ai aa ?_;refine bg 2 ai aa ?_;refine bg 3 ai aa ?_;refine bg 4 ai aa ?_;refine bg 5 ai aa ?_;refine bg 6 ai aa ?_;refine bg 7 ai aa ?_;refine bg 8 ai aa ?_;refine bg 9 ai aa ?_;refine bg 10 ai aa ?_);refine kL ai (i:=11) (j:=12) (by kernel_rfl) ?_ ?_
      ·(refine F9 (i:=11) λK hK=>?_;go_simp)
       (refine hK.out _ _ (λ_=>?_) ?_)
       .exact⟨aQ hbr _,aQ cl' _,aQ LZ _,aQ Jp _,aQ Jl _⟩
       clear hK K;(try simp only[nP]);(refine kS ai (i:=12) λK hK=>?_;go_simp);(refine hK.out _ _ (λ_=>?_) ?_)
       .exact⟨aQ (aQ hbr _) _,aQ (aQ cl' _) _,aQ (aQ LZ _) _,aQ (aQ Jp _) _,aQ (aQ Jl _) _⟩
       clear hK K;(try simp only[nP]);(refine kS ai (i:=13) λK hK=>?_;go_simp);(refine hK.out _ _ (λ_=>?_) ?_)
       .exact⟨aQ (aQ hbr _) _,aQ (aQ cl' _) _,aQ (aQ LZ _) _,aQ (aQ Jp _) _,aQ (aQ Jl _) _⟩
       clear hK K;(try simp only[nP]);refine mM ai [14] [_] ?_;clear ai aa;go_wp2
       go_meet
       exact⟨wr.heap.size,wr.heap.size+1,rfl,rfl,ah (bJ (bJ (fJ _ _) _) _) (dz ⟨1,rfl⟩),aQ (new2_0 wr _ _ _) _,aQ (new2_1 wr _ _ _) _,new3_0 wr _ _ _ _,new3_1 wr _ _ _ _⟩
      ·(refine F9 (i:=12) λK hK=>?_;go_simp)
       (refine hK.out _ _ (λ_=>?_) ?_)
       .exact⟨aQ hbr _,aQ cl' _,aQ LZ _,aQ Jp _,aQ Jl _⟩
       clear hK K;(try simp only[nP]);(refine kS ai (i:=11) λK hK=>?_;go_simp);(refine hK.out _ _ (λ_=>?_) ?_)
       .exact⟨aQ (aQ hbr _) _,aQ (aQ cl' _) _,aQ (aQ LZ _) _,aQ (aQ Jp _) _,aQ (aQ Jl _) _⟩
       clear hK K;(try simp only[nP]);(refine kS ai (i:=13) λK hK=>?_;go_simp);(refine hK.out _ _ (λ_=>?_) ?_)
       .exact⟨aQ (aQ hbr _) _,aQ (aQ cl' _) _,aQ (aQ LZ _) _,aQ (aQ Jp _) _,aQ (aQ Jl _) _⟩
       clear hK K;(try simp only[nP]);refine mM ai [14] [_] ?_;clear ai aa;go_wp2
       go_meet
       exact⟨wr.heap.size+1,wr.heap.size,rfl,rfl,ah (bJ (bJ (fJ _ _) _) _) (dz ⟨1,rfl⟩),new3_0 wr _ _ _ _,new3_1 wr _ _ _ _,aQ (new2_0 wr _ _ _) _,aQ (new2_1 wr _ _ _) _⟩
     case rest=>
      obtain⟨pa,pb,rfl,rfl,tV,p0,p1,q0,q1⟩:=hcut;have WT:=ah hx tV;obtain⟨gb,cb',e,amL,amK,aah⟩:=gY hob (by omega);simp only[gz,true_and]at e;obtain⟨rfl,rfl⟩:=e;have b0:=(aah j (by omega)).trans (Ui hj);have b1:=(aah (j+1) (by omega)).trans (Ui hlt);replace b0:=dP WT b0;replace b1:=dP WT b1;have HC:=yD (And.intro (HI.out.1.1.ext tV) (HI.out.1.2.ext tV)) (HI.out.2.1.ext tV) (HI.out.2.2.ext tV);have HW1:=aI (VH.out j _ (ae hj));have HW2:=aI (VH.out (j+1) _ (ae hlt));have hs:∀x:Nat,x<j+1->x<900000000:=λx hx=>by omega
      have HS:=aI hs;obtain⟨ba,Xu⟩:=eu (aZ.born (vl F j));obtain⟨bb,Db⟩:=eu (aZ.born (vl F (j+1)));have HAH:=jW (@Uw F j (j+1) hj hlt) (@Ro F j (j+1) hj hlt);rw[<-Xu]at b0 HAH;rw[<-Db]at b1 HAH;clear Xu Db aah hob cl' LZ Jp Jl hs;go_upto_region 14 with fail
      refine mQ (λV=>(V.cell? ⟨gb,j,none⟩=some (.int .i64 (ba:Int))/\V.cell? ⟨gb,j+1,none⟩=some (.int .i64 (bb:Int)))/\V.cell? ⟨pa,0,none⟩=some (.slice aL (F[j]).1.length cL)/\V.cell? ⟨pa,1,none⟩=some (.slice aR (F[j]).2.length cR)/\V.cell? ⟨pb,0,none⟩=some (.slice Ey (F[j+1]).1.length Et)/\V.cell? ⟨pb,1,none⟩=some (.slice F3 (F[j+1]).2.length FT)) [20,21,22] Q0 ⟨⟨b0,b1⟩,p0,p1,q0,q1⟩ (λai aa=>?_);(refine bg 0 ai aa ?_;refine bg 1 ai aa ?_;refine bg 2 ai aa ?_;refine bg 3 ai aa ?_;refine bg 4 ai aa ?_;refine bg 5 ai aa ?_;refine bg 6 ai aa ?_;refine bg 7 ai aa ?_;refine bg 8 ai aa ?_;refine bg 10 ai aa ?_;refine bg 11 ai aa ?_;refine bg 12 ai aa ?_;refine bg 13 ai aa ?_;refine bg 15 ai aa ?_;refine bg 16 ai aa ?_;refine bg 17 ai aa ?_;refine bg 18 ai aa ?_);(refine kS ai (i:=9) λK hK=>?_;go_simp);refine(Tryz.cmp_Compare_int _ _ _).mono ?_;rintro e w2 ⟨rfl,hw2⟩;subst hw2;(refine hK.out _ _ (λ_=>?_) ?_)
      .exact aa
      clear hK K;(try simp only[nP]);(refine kS ai (i:=14) λK hK=>?_;go_simp);refine(kZ _ _ (F[j]).1 (F[j+1]).1 _ (HC.out.1.1.ext (dz ⟨1,rfl⟩)) (HC.out.2.1.ext (dz ⟨1,rfl⟩)) (λx hx=>HS.out x (by have:=HW1.out.1 x hx;omega)) (λx hx=>HS.out x (by have:=HW2.out.1 x hx;omega))).mono ?_;rintro e w2 ⟨rfl,n2,rfl⟩;(refine hK.out _ _ (λ_=>?_) ?_)
      .exact aa
      clear hK K;(try simp only[nP]);(refine kS ai (i:=19) λK hK=>?_;go_simp);refine(kZ _ _ (F[j]).2 (F[j+1]).2 _ (HC.out.1.2.ext (dz ⟨1+n2,by rw[<-World.drewN_drewN]⟩)) (HC.out.2.2.ext (dz ⟨1+n2,by rw[<-World.drewN_drewN]⟩)) (λx hx=>HS.out x (by have:=HW1.out.2 x hx;omega)) (λx hx=>HS.out x (by have:=HW2.out.2 x hx;omega))).mono ?_;rintro e w3 ⟨rfl,n3,rfl⟩;(refine hK.out _ _ (λ_=>?_) ?_)
      .exact aa
      clear hK K;(try simp only[nP]);refine mM ai [20,21,22] [_,_,_] ?_;clear ai aa;by_cases hng:(0:Int)<=Aa (Lib.compareInt (ba:Int) (bb:Int)) (aZ.cl (F[j]).1 (F[j+1]).1) (aZ.cl (F[j]).2 (F[j+1]).2)
      .have HN:Hid (¬qH Z):=aI λq=>by
        have:=HAH.out.1 ((HGZ.out.1 q).sorted j (j+1) (by omega) hlt);omega
       go_wp2_with (go_at_call 101;refine(Cn _ (Lib.compareInt (ba:Int) (bb:Int)) (aZ.cl (F[j]).1 (F[j+1]).1) (aZ.cl (F[j]).2 (F[j+1]).2) _ (newc_0 _ _ _ _ _) (newc_1 _ _ _ _ _) (newc_2 _ _ _ _ _)).mono ?_;rintro e w5 ⟨rfl,n5,rfl⟩)
       go_ret
       exact⟨false,rfl,⟨λh=>(by cases h),λh=>absurd h HN.out⟩,ah hE (dG (bJ (ah WT (dz ⟨1+n2+n3,by rw[<-World.drewN_drewN,<-World.drewN_drewN]⟩)) _) _)⟩
      .have HAN:=aI (HAH.out.2 (by omega))
       go_wp2_with (go_at_call 101;refine(Cn _ (Lib.compareInt (ba:Int) (bb:Int)) (aZ.cl (F[j]).1 (F[j+1]).1) (aZ.cl (F[j]).2 (F[j+1]).2) _ (newc_0 _ _ _ _ _) (newc_1 _ _ _ _ _) (newc_2 _ _ _ _ _)).mono ?_;rintro e w5 ⟨rfl,n5,rfl⟩)
       go_roundw
       case rel=>exact⟨j+1+1,by omega,by omega,by go_num,dG (bJ (ah WT (dz ⟨1+n2+n3,by rw[<-World.drewN_drewN,<-World.drewN_drewN]⟩)) _) _,aI λi hi=>by
        by_cases c:i=j
        .subst c;exact HAN.out
        .exact HJ.out i (by omega)⟩
       case measure=>simp[intOf];omega
    .have h1:¬(((k:Nat):Int)<((F.length:Nat):Int)):=by omega
     have hke:k=F.length:=(by omega);have hEr:=ah hE hx;have HU:Hid (∀V,Ext w V->Calls prog 105 #[.slice aF F.length fI,.int .i64 ((F.length:Int)-1)] V (NL F (F.length-1) V)):=λV hV=>by
      have:=QH (.slice aF F.length fI) F (F.length-1) V (hf.ext hV) VH.out (by omega) (by omega);rw[show((F.length-1:Nat):Int)=(F.length:Int)-1 by omega]at this;exact this
     have HE:=aI hEr;have HJ2:Hid (∀i,i+1<F.length->aZ.Ahead F i (i+1)):=aI λi hi=>HJ.out i (by omega)
     clear hf hEr hE hx HJ hke
     go_wp2_with (first
      |(go_at_call 104;refine(FM _ B3 _ _ (by rw[hBl];exact ho2) (by omega)).mono ?_;rintro e w4 ⟨c4,rfl,hc4,q,rfl⟩)
      |(go_at_call 105;refine(HU.out _ HE.out).mono ?_;rintro e w3 ⟨v3,B3,rfl,ho2,hx3,hBl,hB3⟩;have hz3:=ah HE.out hx3;have HB3:=aI hB3;clear hB3))
     go_ret
     refine⟨!c4,rfl,?_,dG hz3 _⟩;rw[HGZ.out,HIF.out];constructor
     .intro h
      refine⟨HJ2.out,λi hi=>(HB3.out i).1 ?_⟩;have hi':i<B3.length:=(by omega);rw[ae hi'];cases hb:B3[i]with
      |true=>rfl
      |false=>
       have:c4=true:=hc4.2 (by rw[<-hb];exact aj hi');rw[this]at h;cases h
     .rintro⟨_,h⟩
      cases c4 with
      |false=>rfl
      |true=>
       obtain⟨i,hi,e⟩:=aH.1 (hc4.1 rfl);have:=(HB3.out i).2 (h i (by omega));rw[ae hi,e]at this;cases this
theorem CU(v:Value)(F:cZ)(w:World)(hf:eZ w 0 v F)(hF:eD F)(hfit:mP F=true):Calls prog 54 #[.agg #[v]] w λe w'=>e=.returned (.bool true)/\Ext w w':=by
 refine(Df v (tQ F) w hf.bV).mono ?_;rintro e w' ⟨b,rfl,hb,hx⟩;exact⟨by rw[hb.2 ((Ce hF).2 hfit)],hx⟩
end
