/- 41 -/
import Derived.Test.YtplgooajigigkaaGreatDoorK40
set_option maxRecDepth 100000
set_option maxHeartbeats 4000000
namespace Go.Proofs.YtplgooajigigkaaGreatDoor
open Tryz
open Go.RowKit
open bE (dh Nd Gm vl bI bz Same plus Canon jc nf N0)
variable {T u:Int} {C E M:dh} {Fs Gs:List dh} {x:Gm} {nd:Nd}
def Gb(T:Int)(g:Gm)(w:World)(e:Ending)(w':World):Prop:=
 ∃(a:Option Addr) (n c:Nat) (ok:Bool),e=.returned (.tuple #[.agg #[.slice a n c],.bool ok])/\(ok=true->rQ T g/\∃E,n=E.length/\Ga T g E/\dm E=true/\dI w' w.heap.size (.slice a n c) E)/\(ok=false->¬rQ T g)/\Ext w w'
def zu(T:Int)(g:Gm)(w:World)(e:Ending)(w':World):Prop:=
 ∃(a:Option Addr) (n c:Nat) (ok:Bool),e=.returned (.tuple #[.agg #[.slice a n c],.bool ok])/\(ok=true->rQ T g/\∃E sl,n=E.length/\Ga T g E/\dm E=true/\FO w' w.heap.size (.slice a n c) E.length sl (mV E))/\(ok=false->¬rQ T g/\a=none/\n=0/\c=0)/\Ext w w'
theorem zu.post{g:Gm}{w:World}{e:Ending}{w':World}(h:zu T g w e w'):Gb T g w e w':=by
 obtain⟨a,n,c,ok,h1,h2,h3,h4⟩:=h;refine⟨a,n,c,ok,h1,λk=>?_,λk=>(h3 k).1,h4⟩;obtain⟨k1,E,sl,rfl,k2,k3,k4⟩:=h2 k;exact⟨k1,E,rfl,k2,k3,Ak k3 k4⟩
def o8(T u:Int)(C:dh)(O:List Nat)(Fs:List dh)(k:Nat):Prop:=
 Fs.length=k/\∀j (_:j<Fs.length) (_:j<O.length),rQ T (vl C O[j])/\nG T u (vl C O[j])/\F9 T u (vl C O[j]) Fs[j]/\dm Fs[j]=true
theorem o8.nil(T u:Int)(C:dh)(O:List Nat):o8 T u C O [] 0:=⟨rfl,λj h=>absurd h (by simp)⟩
theorem o8.next{O:List Nat}{k:Nat}(h:o8 T u C O Fs k)(hk:k<O.length){F:dh}(h1:rQ T (vl C O[k]))(h2:nG T u (vl C O[k]))(h3:F9 T u (vl C O[k]) F)(h4:dm F=true):o8 T u C O (Fs++[F]) (k+1):=by
 obtain⟨hl,h⟩:=h;refine⟨by simp[hl],λj a b=>?_⟩;by_cases c:j<Fs.length
 .rw[dM c];exact h j c b
 .have e:j=k:=by simp at a;omega
  subst e;rw[eQ (by omega)]
  simpa using⟨h1,h2,h3,h4⟩
theorem KI{E':dh}(h:Ga T x E)(fE:dm E=true)(h1:CS E u)(h2:fA E' (plus (bz E) (nf 16 u)))(h3:dm E'=true):nG T u x/\F9 T u x E':=by
 have k:F9 T u x E':=h2.to (bE.o6 h.eqv (jc.refl _));exact⟨⟨E,E',h,fE,h1,k,h3⟩,k⟩
theorem I5(h:Ga T x E)(n:¬(CS E u/\∃E',fA E' (plus (bz E) (nf 16 u))/\dm E'=true)):¬nG T u x:=by
 rintro⟨E0,E',h0,_,h1,h2,h3⟩;have q:=fA.unique h0 h;subst q;exact n ⟨h1,E',fA.to h2 (bE.o6 h.eqv (jc.refl _)).symm,h3⟩
theorem Z9(hC:bI C)(hd:C[C.length-1]?=some nd)(hF:o8 T T C nd.1 Fs nd.1.length)(hG:o8 T (-T) C nd.2 Gs nd.2.length)(hM:bI M)(s:Same (bz M) (gOf Fs Gs)):zO T (bz C) M:=by
 obtain⟨s1,s2,s3,s4⟩:=(bE.same_iff _ _).1 s;obtain⟨f1,f2⟩:=hF;obtain⟨g1,g2⟩:=hG;have el:(bz C).l=nd.1.map (vl C):=bE.lI hC.good.wf hd;have er:(bz C).r=nd.2.map (vl C):=bE.lH hC.good.wf hd;have key:∀{u:Int} {x y:Gm} {F:dh},F9 T u x F->Same y (bz F)->DJ T u x y:=λh s=>by
  exact⟨bE.lQ (bE.dU s) (mG h),s.eqv.trans (fA.eqv h)⟩
 refine⟨hM,λx hx=>?_,λy hy=>?_,λx hx=>?_,λy hy=>?_⟩
 .rw[el]at hx
  obtain⟨k,hk,rfl⟩:=az.1 hx;obtain⟨j,hj,rfl⟩:=aQ.1 hk;obtain⟨y,hy,e⟩:=s2 (bz (Fs[j]'(by omega))) (aV (ai _));exact⟨y,hy,key (f2 j (by omega) hj).2.2.1 e⟩
 .obtain⟨z,hz,e⟩:=s1 y hy
  obtain⟨F,hF,rfl⟩:=az.1 hz;obtain⟨j,hj,rfl⟩:=aQ.1 hF;exact⟨vl C (nd.1[j]'(by omega)),by rw[el];exact aV (ai _),key (f2 j hj (by omega)).2.2.1 e⟩
 .rw[er]at hx
  obtain⟨k,hk,rfl⟩:=az.1 hx;obtain⟨j,hj,rfl⟩:=aQ.1 hk;obtain⟨y,hy,e⟩:=s4 (bz (Gs[j]'(by omega))) (aV (ai _));exact⟨y,hy,key (g2 j (by omega) hj).2.2.1 e⟩
 .obtain⟨z,hz,e⟩:=s3 y hy
  obtain⟨F,hF,rfl⟩:=az.1 hz;obtain⟨j,hj,rfl⟩:=aQ.1 hF;exact⟨vl C (nd.2[j]'(by omega)),by rw[er];exact aV (ai _),key (g2 j hj (by omega)).2.2.1 e⟩
theorem aaa(hC:bI C)(hd:C[C.length-1]?=some nd)(n:¬N0 (bz C))(hF:o8 T T C nd.1 Fs nd.1.length)(hG:o8 T (-T) C nd.2 Gs nd.2.length)(h:∀M,bI M->Same (bz M) (gOf Fs Gs)->dm M=false):¬rQ T (bz C):=by
 intro k;rcases pq.1 k with k|⟨_,_,M,hM,fM⟩
 .exact n k
 .obtain⟨f1,f2⟩:=hF
  obtain⟨g1,g2⟩:=hG;have el:(bz C).l=nd.1.map (vl C):=bE.lI hC.good.wf hd;have er:(bz C).r=nd.2.map (vl C):=bE.lH hC.good.wf hd;obtain⟨iM,m1,m2,m3,m4⟩:=hM;have key:∀{u:Int} {x y:Gm} {F:dh},F9 T u x F->DJ T u x y->Same y (bz F):=λh k=>bE.fT k.1 (mG h) (k.2.trans (fA.eqv h).symm)
  have s:Same (bz M) (gOf Fs Gs):=by
   rw[bE.same_iff];refine⟨λy hy=>?_,λz hz=>?_,λy hy=>?_,λz hz=>?_⟩
   .obtain⟨x,hx,k⟩:=m2 y hy
    rw[el]at hx;obtain⟨o,ho,rfl⟩:=az.1 hx;obtain⟨j,hj,rfl⟩:=aQ.1 ho;exact⟨bz (Fs[j]'(by omega)),aV (ai _),key (f2 j (by omega) hj).2.2.1 k⟩
   .obtain⟨F,hF,rfl⟩:=az.1 hz
    obtain⟨j,hj,rfl⟩:=aQ.1 hF;obtain⟨y,hy,k⟩:=m1 (vl C (nd.1[j]'(by omega))) (by rw[el];exact aV (ai _));exact⟨y,hy,key (f2 j hj (by omega)).2.2.1 k⟩
   .obtain⟨x,hx,k⟩:=m4 y hy
    rw[er]at hx;obtain⟨o,ho,rfl⟩:=az.1 hx;obtain⟨j,hj,rfl⟩:=aQ.1 ho;exact⟨bz (Gs[j]'(by omega)),aV (ai _),key (g2 j (by omega) hj).2.2.1 k⟩
   .obtain⟨F,hF,rfl⟩:=az.1 hz
    obtain⟨j,hj,rfl⟩:=aQ.1 hF;obtain⟨y,hy,k⟩:=m3 (vl C (nd.2[j]'(by omega))) (by rw[er];exact aV (ai _));exact⟨y,hy,key (g2 j hj (by omega)).2.2.1 k⟩
  rw[h M iM s]at fM;cases fM
theorem Jl(hC:bI C)(hd:C[C.length-1]?=some nd)(n:¬N0 (bz C)){o:Nat}(ho:(o∈nd.1/\¬(rQ T (vl C o)/\nG T T (vl C o)))\/(o∈nd.2/\¬(rQ T (vl C o)/\nG T (-T) (vl C o)))):¬rQ T (bz C):=by
 intro k;rcases pq.1 k with k|⟨k1,k2,_⟩
 .exact n k
 .rcases ho with⟨h1,h2⟩|⟨h1,h2⟩
  .exact h2 (k1 _ (by rw[show(bz C).l=nd.1.map (vl C) from bE.lI hC.good.wf hd];exact aV h1))
  .exact h2 (k2 _ (by rw[show(bz C).r=nd.2.map (vl C) from bE.lH hC.good.wf hd];exact aV h1))
theorem ac1(hC:bI C)(hd:C[C.length-1]?=some nd)(hF:o8 T T C nd.1 Fs nd.1.length)(hG:o8 T (-T) C nd.2 Gs nd.2.length)(hM:zO T (bz C) M)(fM:dm M=true):rQ T (bz C):=by
 rw[pq];refine .inr ⟨λx hx=>?_,λx hx=>?_,M,hM,fM⟩
 .rw[show(bz C).l=nd.1.map (vl C) from bE.lI hC.good.wf hd]at hx
  obtain⟨o,ho,rfl⟩:=az.1 hx;obtain⟨j,hj,rfl⟩:=aQ.1 ho;have k:=hF.2 j (by have:=hF.1;omega) hj;exact⟨k.1,k.2.1⟩
 .rw[show(bz C).r=nd.2.map (vl C) from bE.lH hC.good.wf hd]at hx
  obtain⟨o,ho,rfl⟩:=az.1 hx;obtain⟨j,hj,rfl⟩:=aQ.1 ho;have k:=hG.2 j (by have:=hG.1;omega) hj;exact⟨k.1,k.2.1⟩
theorem Ez(t:Int)(p:Nat):gP (-t) p=-gP t p:=by simp[gP,Int.neg_mul]
theorem Ox:(prog.info? 30).map (λi=>(i.zero,i.size,i.bytes))=some (some (.agg #[.slice none 0 0]),1,24):=by kernel_rfl
def KV:List Row:=[⟨0,[],64,[12]⟩,⟨1,[],65,[12]⟩,⟨2,[1],66,[10,64]⟩,⟨3,[2],67,[65]⟩,⟨4,[],68,[17]⟩,⟨5,[4],69,[67]⟩,⟨6,[3,5],70,[66,68]⟩,⟨7,[0,0,1,2,3,4,5,6],71,[10,63]⟩,⟨8,[7,6,6,0,1,2,3,4,5,6],0,[70,69]⟩]
theorem KO(fn:FuncId)(env:Array Value)(t:Int)(p:Nat)(v:Value)(C:dh)(w:World)(hv:dI w 0 v C)(hC:bI C)(cC:Canon (bz C))(fC:dm C=true)(hg:dS t p=true)(hg2:dS (-t) p=true)(ht:0<=t)(n0:¬N0 (bz C))
 (hent:∀(args:Array Value) (w:World),(callFunc fn args).run prog w=.ok (.enter fn args) w)
 (hch:∀(i:Nat) (vE:Value) (E:dh) (V:World),i<C.length-1->Ext w V->dI V 0 vE E->bI E->bz E=vl C i->dm E=true->Calls prog fn (#[.agg #[vE]]++env) V (Gb (gP t p) (vl C i) V)):
 Calls prog 34 #[.agg #[v],.func (.func fn) #[] env,tY t p,tY (-t) p] w (zu (gP t p) (bz C) w):=by
 obtain⟨iF,Q9,zF0,zF1,zF2⟩:=info_parts Ox;obtain⟨aC,Ej,rfl,-,-,-⟩:=id hv;obtain⟨l1,l2,uq⟩:=l6 fC;obtain⟨n,hn⟩:∃n,C.length=n+1:=⟨C.length-1,by omega⟩;have hlt:n<C.length:=by omega
 have hd:C[n]?=some C[n]:=af hlt;obtain⟨nd,hnd⟩:=fu (C[n]);rw[<-hnd]at hd;have hwf:=hC.good.wf n nd hd;have hol:=uq n hlt;rw[<-hnd]at hol;obtain⟨W1,hW1,hx1,hb0,hb1,hb2,hb3⟩:∃W,W=(((w.alloc (.cells #[.slice aC C.length Ej] 30)).alloc (.cells #[.int .i64 t,.int .i64 (p:Int)] 34)).alloc (.cells #[.int .i64 (-t),.int .i64 (p:Int)] 34)).alloc (.cells #[.slice none 0 0] 30)/\Ext w W/\W.heap[w.heap.size]?=some (.cells #[.slice aC C.length Ej] 30 (0,0))/\oQ W (w.heap.size+1) t p/\oQ W (w.heap.size+1+1) (-t) p/\W.heap[w.heap.size+1+1+1]?=some (.cells #[.slice none 0 0] 30 (0,0)):=by
  refine⟨_,rfl,by go_grown,?_,?_,?_,?_⟩
  .rw[jo _ _ _ (by simp only[fU];omega),jo _ _ _ (by simp only[fU];omega),jo _ _ _ (by simp only[fU];omega)];exact eu _ _
  .show _=_
   rw[jo _ _ _ (by simp only[fU];omega),jo _ _ _ (by simp only[fU];omega)];have h:=eu (w.alloc (.cells #[.slice aC C.length Ej] 30)) (.cells #[.int .i64 t,.int .i64 (p:Int)] 34);rw[fU]at h;exact h
  .show _=_
   rw[jo _ _ _ (by simp only[fU];omega)];have h:=eu ((w.alloc (.cells #[.slice aC C.length Ej] 30)).alloc (.cells #[.int .i64 t,.int .i64 (p:Int)] 34)) (.cells #[.int .i64 (-t),.int .i64 (p:Int)] 34);rw[fU,fU]at h;exact h
  .have h:=eu (((w.alloc (.cells #[.slice aC C.length Ej] 30)).alloc (.cells #[.int .i64 t,.int .i64 (p:Int)] 34)).alloc (.cells #[.int .i64 (-t),.int .i64 (p:Int)] 34)) (.cells #[.slice none 0 0] 30);rw[fU,fU,fU]at h;exact h
 have hsz1:W1.heap.size=w.heap.size+1+1+1+1:=by rw[hW1];simp only[fU]
 have c0:=bQ W1 w.heap.size 0 _ _ _ hb0;simp only[gE]at c0;obtain⟨W2,hW2,hx2,m0⟩:∃W,W=W1.alloc (.cells #[.slice none 0 0,.slice none 0 0] 115)/\Ext W1 W/\ShM W1 W W W1.heap.size (.slice none 0 0) (.slice none 0 0) [] [] [] [] (λ_=>False):=by
  refine⟨_,rfl,by go_grown,⟨eu _ _,⟨by simp,.inl ⟨rfl,rfl⟩⟩,⟨by simp,.inl ⟨rfl,rfl⟩⟩,λb hb=>by simp[Value.ownBlock]at hb,⟨λb hb=>hb.elim,λ_ _=>⟨⟨rfl,λi a=>absurd a (by simp)⟩,⟨rfl,λi a=>absurd a (by simp)⟩⟩⟩,λb hb=>hb.elim,by go_grown,aJ _,by rw[fU];omega,aJ _⟩⟩
 have abG:=aW (ZG (.slice aC C.length Ej) C n nd w W2 hv (ah hx1 hx2) hn hd);have HC:=Ap hv hC cC fC;have HG:=Ap hg hg2 ht n0;have HD:=Aw hd hwf hol hn uq;have HCH:=aW hch;have HLC:Hid (C.length<=120):=aW l2;have HAC:Hid (∀x,x∈C->x.1.length<=1000000/\x.2.length<=1000000):=aW λx hx=>by
  obtain⟨i,hi,rfl⟩:=aQ.1 hx;have:=uq i hi;exact⟨by omega,by omega⟩
 have HD2:Hid (C[C.length-1]?=some nd):=aW (by rw[show C.length-1=n by omega];exact hd);clear hv hC cC fC hg hg2 ht n0 hd hwf hol uq hch hnd hlt hn l1 l2;rw[gM,gM];go_enter Tryz.func34,Tryz.ntmps34
 go_upto_region 1 with fail
 rw[<-hW1];clear hW1;go_upto_region 2 with fail
 rw[<-hW2];clear hW2;have cW:=fw hx2 c0;go_upto_region 3 with(go_at_call 76;refine abG.out.mono ?_;rintro e w3 ⟨aL,cL,aR,cR,rfl,vM,vJ,hx3⟩)
 have hxa:Ext w3 (w3.alloc (.cells #[.slice aL nd.1.length cL,.slice aR nd.2.length cR] 91)):=by go_grown
 have hnb:=eu w3 (.cells #[.slice aL nd.1.length cL,.slice aR nd.2.length cR] 91);have m1:=(m0.ext' hx3).ext' hxa;have hx4:=ah hx1 m1.ext;generalize w3.alloc (.cells #[.slice aL nd.1.length cL,.slice aR nd.2.length cR] 91)=W4 at *;have n0:=bQ W4 w3.heap.size 0 _ _ _ hnb;have n1:=bQ W4 w3.heap.size 1 _ _ _ hnb;simp only[gE]at n0 n1;obtain⟨lb,hlb⟩:=fu (w.heap.size+1+1+1+1);rw[<-hlb]at hsz1 ⊢;rw[hsz1]at m1;have HIL:=jm vM vJ;have HB1:=Aw hb0 hb1 hb2 hb3 hx1;clear hxa hnb vM vJ hx3 m0 cW hx2 hb0 hb1 hb2 hb3 hx1 hx4 c0 hsz1 hlb;go_upto_region 4 with fail
 clear n0 n1;go_loopw [12,13,14,16,17,18,29] (λ_ _ _ _ _ _ ki wr=>∃(k:Nat) (lv rv:Value) (xs ys:List Value) (Fs Gs:List dh) (S:Nat->Prop),k<=2/\ki=.int .i64 ((k:Nat):Int)/\ShM W1 W2 wr lb lv rv xs ys Fs Gs S/\Hid (o8 (gP t p) (gP t p) C nd.1 Fs (if k=0 then 0 else nd.1.length))/\Hid (o8 (gP t p) (-gP t p) C nd.2 Gs (if k=2 then nd.2.length else 0))) (λ_ _ _ _ _ _ ki _=>2-(intOf ki).toNat)
 case atStart=>exact⟨0,_,_,[],[],[],[],_,by omega,by go_num,m1,aW (o8.nil _ _ _ _),aW (o8.nil _ _ _ _)⟩
 case round=>
  clear m1;obtain⟨k,lv,rv,xs,ys,Fs,Gs,S,hk,rfl,hm,HL,HR⟩:=hrel;rcases(show k=0\/k=1\/k=2 by omega)with rfl|rfl|rfl
  .rw[show(((0:Nat)):Int)=0 from rfl]
   have hr1:oQ wr (w.heap.size+1) t p:=ik hm.ext HB1.out.2.1;obtain⟨d0,d1⟩:=hr1.cells;have ix:∀w,(Instr.index 117 (.agg #[.slice aL nd.1.length cL,.slice aR nd.2.length cR]) (.int .i64 (0:Int))).run prog w=.ok (.slice aL nd.1.length cL) w:=λ_=>by kernel_rfl
   have ix2:∀w,(Instr.index 117 (.agg #[.slice aL nd.1.length cL,.slice aR nd.2.length cR]) (.int .i64 ((0:Nat):Int))).run prog w=.ok (.slice aL nd.1.length cL) w:=λ_=>by kernel_rfl
   have hxb:Ext wr (wr.alloc (.cells #[.int .i64 t,.int .i64 (p:Int)] 34)):=(by go_grown);have hbb:=eu wr (.cells #[.int .i64 t,.int .i64 (p:Int)] 34);go_upto_region 9 with fail
   have hmB:=(hm.ext' hxb).more (b0:=wr.heap.size) (bW hbb) (λe=>by have:=bW hm.box;omega) (λe=>by have:=(hm.l.lt _ e).2;omega) (λe=>by have:=(hm.r.lt _ e).2;omega);generalize wr.alloc (.cells #[.int .i64 t,.int .i64 (p:Int)] 34)=Wb at *;have Ps:oQ Wb wr.heap.size t p:=hbb;clear hm hr1 d0 d1 ix ix2 hxb hbb;generalize wr.heap.size=bb at *;go_wp2
   go_loopw [16,17,18,39] (λ_ _ _ ii wr=>∃(i:Nat) (lv:Value) (xs:List Value) (Fs:List dh) (S:Nat->Prop),i<=nd.1.length/\ii=.int .i64 ((i:Nat):Int)/\ShM W1 W2 wr lb lv rv xs ys Fs Gs S/\Hid (S bb)/\oQ wr bb t p/\Hid (o8 (gP t p) (gP t p) C nd.1 Fs (if 0=0 then i else nd.1.length))/\Hid (o8 (gP t p) (-gP t p) C nd.2 Gs (if 0=0 then 0 else i))) (λ_ _ _ ii _=>nd.1.length-(intOf ii).toNat)
   case atStart=>exact⟨0,_,_,_,_,aU _,by go_num,hmB,aW (.inr rfl),Ps,HL,HR⟩
   case round=>
    clear hmB Ps HL HR;obtain⟨i,lv,xs,Fs,S,hi,rfl,hm,HSB,Ps,HL,HR⟩:=hrel;by_cases hlt:i<nd.1.length
    .have h1:((i:Nat):Int)<((nd.1.length:Nat):Int):=by omega
     have FC:=ah HB1.out.2.2.2.2 hm.ext;obtain⟨b,off,rfl,hcell⟩:=xV HIL.out.1 hlt;have ou:=fw FC hcell;have hoX:=HD.out.2.1.1 _ (ai hlt);have kg:=aW hlt;obtain⟨o,ho⟩:=fu (nd.1[i]'(kg.out));rw[<-ho]at ou hoX;have HO:=aW ho;have hc0:=ik hm.ext HB1.out.1;have c0:=bQ wr w.heap.size 0 _ _ _ hc0;simp only[gE]at c0;have HP:=aW (K9 (.slice aC C.length Ej) C o wr (HC.out.1.ext FC) HC.out.2.1 HAC.out (by have:=HD.out.2.2.2.1;have:=HD.out.2.2.2.2;have:=HLC.out;omega) (by have:=HD.out.2.2.2.1;omega));have HOL:Hid (o<C.length-1):=aW (by have:=HD.out.2.2.2.1;omega);clear ho hcell hc0 hlt
     go_upto_region 13 with(first
      |(go_at_call 77;refine HP.out.mono ?_;rintro e w5 ⟨aE,cE,E,rfl,Zj,hTE,Tv,hNE,hx5⟩
        have HE:=Ap Zj hTE (Tv HC.out.2.2.2) (hNE.weaken (aU _));have YR:=aW hx5;clear Zj hTE Tv hNE)
      |(have T6:=HCH.out o (.slice aE E.length cE) E w5 HOL.out (ah FC YR.out) HE.out.2.2.2 HE.out.1 HE.out.2.1 HE.out.2.2.1
        with_reducible refine T6.mono ?_
        clear T6;rintro e w6 ⟨aH,nH,cH,okH,rfl,hH1,hH2,hx6⟩))
     have hx7:Ext w6 (w6.alloc (.cells #[.slice aH nH cH] 30)):=(by go_grown);have UF:=eu w6 (.cells #[.slice aH nH cH] 30);have hw7:(w6.alloc (.cells #[.slice aH nH cH] 30)).heap.size=w6.heap.size+1:=fU _ _;have HX7:=aW (ah YR.out (ah hx6 hx7));have HW7:=aW hw7;have OD:w5.heap.size<=w6.heap.size:=hx6.size;have WO:wr.heap.size<=w6.heap.size:=bZ YR.out.size OD;have UN:=jm WO OD;clear hw7 hx6 OD WO HP c0 ou h1;generalize hWW:w6.alloc (.cells #[.slice aH nH cH] 30)=W7 at *;cases okH with
     |false=>
      have rq:Hid (¬rQ (gP t p) (bz C)):=aW (Jl HC.out.2.1 HD2.out HG.out.2.2.2 (o:=o) (Or.inl ⟨by rw[HO.out];exact ai _,λk=>hH2 rfl k.1⟩));have IY:=aW (hm.ext' HX7.out);clear hH1 hH2 UF hm;have Ee:=ik IY.out.ext HB1.out.2.2.2.1;have z1:=bQ _ (w.heap.size+1+1+1) 0 _ _ _ Ee;have z2:=gQ _ (w.heap.size+1+1+1) 0 _ _ Ee;have HR9:=aW Ee;clear Ee;go_wp2
      refine mg (w.heap.size+1+1+1) 30 _ (gK _ (w.heap.size+1+1+1) 0 _ _ (.slice none 0 0) HR9.out) underlying30 ?_;exact⟨none,0,0,false,rfl,(λh=>by cases h),λ_=>⟨rq.out,rfl,rfl,rfl⟩,ll (ah HB1.out.2.2.2.2 IY.out.ext) (w.heap.size+1+1+1) 0 _⟩
     |true=>
      obtain⟨Mh,EH,rfl,yo,fH,XP⟩:=hH1 rfl;have hD7:=Ps.ext HX7.out;obtain⟨y0,y1⟩:=hD7.cells;have x0:=bQ W7 w6.heap.size 0 _ _ _ UF;simp only[gE]at x0;have hpn:=xS (.slice aH EH.length cH) EH t p W7 ((XP.weaken (aU _)).ext hx7) yo.1 (mG yo) fH HG.out.1;rw[gM]at hpn;have HPN:=aW hpn;have RH:=nY Mh yo fH;obtain⟨aq,cq,rfl,-,-⟩:=bT hm.l;have sU:Hid (xs.length<=24):=aW (by
       have h1:=hm.sup.out.1.1;have h2:=hm.sup.out.2.1;have h3:=HL.out.1;have h4:=HR.out.1;have h5:=HD.out.2.2.1
       first
        |(have h3:Fs.length=i:=h3;omega)
        |(have h4:Gs.length=i:=h4;omega))
      clear hH1 hH2 XP Mh yo fH hx7 hpn hi
      go_upto_region 16 with(go_at_call 78;refine HPN.out.mono ?_;rintro e w8 ⟨aP,nP,cP,okP,rfl,hP1,hP2,Gi⟩
                             have hb8:=ik Gi UF;have u0:=bQ w8 w6.heap.size 0 _ _ _ hb8;have u1:=gQ w8 w6.heap.size 0 _ _ hb8;have YT:=jm hP1 hP2;have HB8:=aW hb8;have HX8:=aW Gi;clear hP1 hP2 hb8 Gi)
      obtain⟨hP1,hP2⟩:=YT.out;(try rw[Ez]at hP1 hP2);have UE:=gK w8 w6.heap.size 0 _ _ (.slice aP nP cP) HB8.out;have HX9:=aW ((ah HX7.out HX8.out).setCell (p:=⟨w6.heap.size,0,none⟩) UN.out.1 (.slice aP nP cP));clear UF x0 y0 y1 u0 u1 HPN YT;cases okP with
      |false=>
       generalize w8.setCell ⟨w6.heap.size,0,none⟩ (.slice aP nP cP)=W9 at *;have rq:Hid (¬rQ (gP t p) (bz C)):=aW (Jl HC.out.2.1 HD2.out HG.out.2.2.2 (o:=o) (Or.inl ⟨by rw[HO.out];exact ai _,λk=>I5 RH.out.2.1 (hP2 rfl) k.2⟩));have IY:=aW (hm.ext' HX9.out);clear hP1 hP2 UE hm;have Ee:=ik IY.out.ext HB1.out.2.2.2.1;have z1:=bQ _ (w.heap.size+1+1+1) 0 _ _ _ Ee;have z2:=gQ _ (w.heap.size+1+1+1) 0 _ _ Ee;have HR9:=aW Ee;clear Ee;go_wp2
       refine mg (w.heap.size+1+1+1) 30 _ (gK _ (w.heap.size+1+1+1) 0 _ _ (.slice none 0 0) HR9.out) underlying30 ?_;exact⟨none,0,0,false,rfl,(λh=>by cases h),λ_=>⟨rq.out,rfl,rfl,rfl⟩,ll (ah HB1.out.2.2.2.2 IY.out.ext) (w.heap.size+1+1+1) 0 _⟩
      |true=>
       obtain⟨E',rfl,k1,k2,k3,k4⟩:=hP1 rfl;obtain⟨sOK,hHP⟩:=KI RH.out.2.1 RH.out.2.2 k1 k2 k3;have hNP:=k4.set (p:=⟨w6.heap.size,0,none⟩) (by show w6.heap.size<W7.heap.size;have:=HW7.out;omega) (.slice aP E'.length cP);have hNW:=HW7.out;have adk:W7.heap.size<=(w8.setCell ⟨w6.heap.size,0,none⟩ (.slice aP E'.length cP)).heap.size:=bZ HX8.out.size (dH (w:=w8) (p:=⟨w6.heap.size,0,none⟩) (v:=.slice aP E'.length cP)).size;have HKK:=nY sOK hHP k3;clear hP1 hP2 k1 k2 k3 k4 sOK hHP;go_upto_region 18 with fail
       generalize w8.setCell ⟨w6.heap.size,0,none⟩ (.slice aP E'.length cP)=W9 at *;have WJ:Ext W9 ((W9.alloc (.cells #[.slice aP E'.length cP] 30)).drew):=ah (bY (gz _ _) _) (dQ ⟨1,rfl⟩);have hmD:=hm.ext' HX9.out;have WW:=hNP.sup (S:=λb=>W7.heap.size<=b/\b<W9.heap.size) (λb hb=>hb.2) (λb h1 h2=>⟨h1,h2⟩);have h67:=UN.out.1;have hT:=λb (hb:W7.heap.size<=b/\b<W9.heap.size)=>hm.fresh (b:=b) (by omega)
       have b9:=bQ W9 lb 0 _ _ _ hmD.box;have g9:W9.cell? ⟨w6.heap.size,0,none⟩=some (.slice aP E'.length cP):=bQ W9 w6.heap.size 0 _ _ _ UE;simp only[gE]at b9;have OW:=hm.far bb HSB.out;have J8:=jm (Ps.ext HX9.out) OW;have hgb:w6.heap.size<W9.heap.size:=lt_of_cell g9;have hown:(Value.slice aq xs.length cq).ownBlock≠some w6.heap.size:=by
        first
         |exact(hm.fresh h67).2.1
         |exact(hm.fresh h67).2.2
       have gWA:((W9.alloc (.cells #[.slice aP E'.length cP] 30)).drew).cell? ⟨w6.heap.size,0,none⟩=some (.slice aP E'.length cP):=aI g9 _;have nWA:((W9.alloc (.cells #[.slice aP E'.length cP] 30)).drew).cell? ⟨W9.heap.size,0,none⟩=some (.slice aP E'.length cP):=dW _ _ _;have Cf:=nY hmD WW hT;have Ko:=nY WJ gWA nWA;have adN:bb<W9.heap.size:=bg (bW Ps) HX9.out.size;have hXl:=sU.out;clear hm hmD WW hT hNP UE OW Ps hNW adk hD7 WJ gWA nWA;refine oJ (λV=>V.cell? ⟨lb,0,none⟩=some (.slice aq xs.length cq)/\V.cell? ⟨w6.heap.size,0,none⟩=some (.slice aP E'.length cP)) [7,8] KV ⟨b9,g9⟩ (λaj ae=>?_);(refine bP 0 aj ae ?_;refine bP 1 aj ae ?_;refine bP 2 aj ae ?_;refine bP 3 aj ae ?_;refine bP 4 aj ae ?_);(refine jv aj (i:=5) λK hK=>?_;go_simp);(refine hK.out _ _ (λ_=>?_) ?_)
       .exact⟨aI b9 _,aI g9 _⟩
       clear hK K;(try simp only[nP]);refine jv aj (i:=6) λK hK=>?_
       refine jf rfl (.tmp 66) (.tmp 68) 80 rfl W2.heap.size 30 iF (.agg #[.slice none 0 0]) 1 24 underlying80 Q9 zF0 zF1 zF2 rfl (by decide) (.slice aq xs.length cq) xs.length xs rfl (dD Cf.out.1.l Ko.out.1) _ 1 _ [.slice aP E'.length cP] rfl rfl (.inr ⟨_,rfl,fD Ko.out.2.2⟩) (by intro u hu;simp only[eT]at hu;subst hu;rfl) (by unfold maxLen;omega) (by omega) (bZ Cf.out.1.sz Ko.out.1.size) ?_;intro v9 w9 Fv Av L8;obtain⟨x9,y9,rfl,-,-⟩:=bT Fv;have c9:=(mP ((fP Av).block w6.heap.size (bg hgb Ko.out.1.size) hown)).trans Ko.out.2.1;obtain⟨GG,q1,q2⟩:=Cf.out.1.acY Cf.out.2.1 Cf.out.2.2 Ko.out.1 Av Fv (by simp) rfl L8;have hst:=Qv (k:=0) (u:=.slice x9 (xs.length+1) y9) (lb:=lb) (b:=bb) Ko.out.1 Av adN (by first|exact J8.out.2.2.1|exact J8.out.2.2.2) J8.out.2.1;have YV:=jm GG (hst.trans J8.out.1);clear GG Fv Av L8 hst;(refine hK.out _ _ (λ_=>?_) ?_)
       .exact⟨q1,c9⟩
       clear hK K;(try simp only[nP]);refine nQ aj [7,8] [_,_] ?_;clear aj ae b9 g9 c9;have hlt2:i+1<=nd.1.length:=kg.out;have alU:i<24:=(by have:=HD.out.2.2.1;omega);go_wp2
       have HGR:Hid (o8 (gP t p) (gP t p) C nd.1 (Fs++[E']) (i+1)):=aW (o8.next (k:=i) HL.out kg.out (by rw[<-HO.out];exact RH.out.1) (by rw[<-HO.out];exact HKK.out.1) (by rw[<-HO.out];exact HKK.out.2.1) HKK.out.2.2);go_roundw
       case rel=>exact⟨i+1,_,_,_,_,hlt2,by go_num,YV.out.1,aW (.inl HSB.out),YV.out.2,by first|exact HGR|exact HL,by first|exact HGR|exact HR⟩
       case measure=>simp[intOf];omega
    .have h1:¬(((i:Nat):Int)<((nd.1.length:Nat):Int)):=by omega
     have hie:i=nd.1.length:=(by omega);subst hie;go_wp2
     go_roundw
     case rel=>exact⟨0+1,lv,rv,xs,ys,Fs,Gs,S,by omega,by go_num,hm,HL,HR⟩
     case measure=>simp[intOf]
  .rw[show(((1:Nat)):Int)=1 from rfl]
   have hr1:oQ wr (w.heap.size+1) t p:=ik hm.ext HB1.out.2.1;have hr2:oQ wr (w.heap.size+1+1) (-t) p:=ik hm.ext HB1.out.2.2.1;obtain⟨d0,d1⟩:=hr1.cells;obtain⟨e0,e1⟩:=hr2.cells;have ix:∀w,(Instr.index 117 (.agg #[.slice aL nd.1.length cL,.slice aR nd.2.length cR]) (.int .i64 (1:Int))).run prog w=.ok (.slice aR nd.2.length cR) w:=λ_=>by kernel_rfl
   obtain⟨Wa,hWa,hxb,Rc,e0',e1'⟩:∃W,W=wr.alloc (.cells #[.int .i64 t,.int .i64 (p:Int)] 34)/\Ext wr W/\oQ W wr.heap.size t p/\W.cell? ⟨w.heap.size+1+1,0,none⟩=some (.int .i64 (-t))/\W.cell? ⟨w.heap.size+1+1,1,none⟩=some (.int .i64 (p:Int)):=⟨_,rfl,by go_grown,eu wr _,aI e0 _,aI e1 _⟩;have q1:=bQ Wa wr.heap.size 0 _ _ _ Rc;have q2:=bQ Wa wr.heap.size 1 _ _ _ Rc;have q3:=gQ Wa wr.heap.size 0 _ _ Rc;have q4:=gQ Wa wr.heap.size 1 _ _ Rc;simp only[gE]at q1 q2;have hbb:=gK (Wa.setCell ⟨wr.heap.size,0,none⟩ (.int .i64 (-t))) wr.heap.size 1 _ _ (.int .i64 (p:Int)) (gK Wa wr.heap.size 0 _ _ (.int .i64 (-t)) Rc);have aak:Ext wr ((Wa.setCell ⟨wr.heap.size,0,none⟩ (.int .i64 (-t))).setCell ⟨wr.heap.size,1,none⟩ (.int .i64 (p:Int))):=(hxb.setCell (p:=⟨wr.heap.size,0,none⟩) (aJ _) _).setCell (p:=⟨wr.heap.size,1,none⟩) (aJ _) _;go_upto_region 7 with fail
   rw[<-hWa];clear hWa;go_upto_region 9 with fail
   have hmB:=(hm.ext' aak).more (b0:=wr.heap.size) (bW hbb) (λe=>by have:=bW hm.box;omega) (λe=>by have:=(hm.l.lt _ e).2;omega) (λe=>by have:=(hm.r.lt _ e).2;omega);generalize (Wa.setCell ⟨wr.heap.size,0,none⟩ (.int .i64 (-t))).setCell ⟨wr.heap.size,1,none⟩ (.int .i64 (p:Int))=Wb at *;have Ps:oQ Wb wr.heap.size (-t) p:=hbb;clear hm hr1 hr2 d0 d1 ix hxb aak hbb Rc e0 e1 e0' e1' q1 q2 q3 q4;generalize wr.heap.size=bb at *;go_wp2
   go_loopw [16,17,18,39] (λ_ _ _ ii wr=>∃(i:Nat) (rv:Value) (ys:List Value) (Gs:List dh) (S:Nat->Prop),i<=nd.2.length/\ii=.int .i64 ((i:Nat):Int)/\ShM W1 W2 wr lb lv rv xs ys Fs Gs S/\Hid (S bb)/\oQ wr bb (-t) p/\Hid (o8 (gP t p) (gP t p) C nd.1 Fs (if 1=0 then i else nd.1.length))/\Hid (o8 (gP t p) (-gP t p) C nd.2 Gs (if 1=0 then 0 else i))) (λ_ _ _ ii _=>nd.2.length-(intOf ii).toNat)
   case atStart=>exact⟨0,_,_,_,_,aU _,by go_num,hmB,aW (.inr rfl),Ps,HL,HR⟩
   case round=>
    clear hmB Ps HL HR;obtain⟨i,rv,ys,Gs,S,hi,rfl,hm,HSB,Ps,HL,HR⟩:=hrel;by_cases hlt:i<nd.2.length
    .have h1:((i:Nat):Int)<((nd.2.length:Nat):Int):=by omega
     have FC:=ah HB1.out.2.2.2.2 hm.ext;obtain⟨b,off,rfl,hcell⟩:=xV HIL.out.2 hlt;have ou:=fw FC hcell;have hoX:=HD.out.2.1.2 _ (ai hlt);have kg:=aW hlt;obtain⟨o,ho⟩:=fu (nd.2[i]'(kg.out));rw[<-ho]at ou hoX;have HO:=aW ho;have hc0:=ik hm.ext HB1.out.1;have c0:=bQ wr w.heap.size 0 _ _ _ hc0;simp only[gE]at c0;have HP:=aW (K9 (.slice aC C.length Ej) C o wr (HC.out.1.ext FC) HC.out.2.1 HAC.out (by have:=HD.out.2.2.2.1;have:=HD.out.2.2.2.2;have:=HLC.out;omega) (by have:=HD.out.2.2.2.1;omega));have HOL:Hid (o<C.length-1):=aW (by have:=HD.out.2.2.2.1;omega);clear ho hcell hc0 hlt
     go_upto_region 13 with(first
      |(go_at_call 77;refine HP.out.mono ?_;rintro e w5 ⟨aE,cE,E,rfl,Zj,hTE,Tv,hNE,hx5⟩
        have HE:=Ap Zj hTE (Tv HC.out.2.2.2) (hNE.weaken (aU _));have YR:=aW hx5;clear Zj hTE Tv hNE)
      |(have T6:=HCH.out o (.slice aE E.length cE) E w5 HOL.out (ah FC YR.out) HE.out.2.2.2 HE.out.1 HE.out.2.1 HE.out.2.2.1
        with_reducible refine T6.mono ?_
        clear T6;rintro e w6 ⟨aH,nH,cH,okH,rfl,hH1,hH2,hx6⟩))
     have hx7:Ext w6 (w6.alloc (.cells #[.slice aH nH cH] 30)):=(by go_grown);have UF:=eu w6 (.cells #[.slice aH nH cH] 30);have hw7:(w6.alloc (.cells #[.slice aH nH cH] 30)).heap.size=w6.heap.size+1:=fU _ _;have HX7:=aW (ah YR.out (ah hx6 hx7));have HW7:=aW hw7;have OD:w5.heap.size<=w6.heap.size:=hx6.size;have WO:wr.heap.size<=w6.heap.size:=bZ YR.out.size OD;have UN:=jm WO OD;clear hw7 hx6 OD WO HP c0 ou h1;generalize hWW:w6.alloc (.cells #[.slice aH nH cH] 30)=W7 at *;cases okH with
     |false=>
      have rq:Hid (¬rQ (gP t p) (bz C)):=aW (Jl HC.out.2.1 HD2.out HG.out.2.2.2 (o:=o) (Or.inr ⟨by rw[HO.out];exact ai _,λk=>hH2 rfl k.1⟩));have IY:=aW (hm.ext' HX7.out);clear hH1 hH2 UF hm;have Ee:=ik IY.out.ext HB1.out.2.2.2.1;have z1:=bQ _ (w.heap.size+1+1+1) 0 _ _ _ Ee;have z2:=gQ _ (w.heap.size+1+1+1) 0 _ _ Ee;have HR9:=aW Ee;clear Ee;go_wp2
      refine mg (w.heap.size+1+1+1) 30 _ (gK _ (w.heap.size+1+1+1) 0 _ _ (.slice none 0 0) HR9.out) underlying30 ?_;exact⟨none,0,0,false,rfl,(λh=>by cases h),λ_=>⟨rq.out,rfl,rfl,rfl⟩,ll (ah HB1.out.2.2.2.2 IY.out.ext) (w.heap.size+1+1+1) 0 _⟩
     |true=>
      obtain⟨Mh,EH,rfl,yo,fH,XP⟩:=hH1 rfl;have hD7:=Ps.ext HX7.out;obtain⟨y0,y1⟩:=hD7.cells;have x0:=bQ W7 w6.heap.size 0 _ _ _ UF;simp only[gE]at x0;have hpn:=xS (.slice aH EH.length cH) EH (-t) p W7 ((XP.weaken (aU _)).ext hx7) yo.1 (mG yo) fH HG.out.2.1;rw[gM]at hpn;have HPN:=aW hpn;have RH:=nY Mh yo fH;obtain⟨aq,cq,rfl,-,-⟩:=bT hm.r;have sU:Hid (ys.length<=24):=aW (by
       have h1:=hm.sup.out.1.1;have h2:=hm.sup.out.2.1;have h3:=HL.out.1;have h4:=HR.out.1;have h5:=HD.out.2.2.1
       first
        |(have h3:Fs.length=i:=h3;omega)
        |(have h4:Gs.length=i:=h4;omega))
      clear hH1 hH2 XP Mh yo fH hx7 hpn hi
      go_upto_region 16 with(go_at_call 78;refine HPN.out.mono ?_;rintro e w8 ⟨aP,nP,cP,okP,rfl,hP1,hP2,Gi⟩
                             have hb8:=ik Gi UF;have u0:=bQ w8 w6.heap.size 0 _ _ _ hb8;have u1:=gQ w8 w6.heap.size 0 _ _ hb8;have YT:=jm hP1 hP2;have HB8:=aW hb8;have HX8:=aW Gi;clear hP1 hP2 hb8 Gi)
      obtain⟨hP1,hP2⟩:=YT.out;(try rw[Ez]at hP1 hP2);have UE:=gK w8 w6.heap.size 0 _ _ (.slice aP nP cP) HB8.out;have HX9:=aW ((ah HX7.out HX8.out).setCell (p:=⟨w6.heap.size,0,none⟩) UN.out.1 (.slice aP nP cP));clear UF x0 y0 y1 u0 u1 HPN YT;cases okP with
      |false=>
       generalize w8.setCell ⟨w6.heap.size,0,none⟩ (.slice aP nP cP)=W9 at *;have rq:Hid (¬rQ (gP t p) (bz C)):=aW (Jl HC.out.2.1 HD2.out HG.out.2.2.2 (o:=o) (Or.inr ⟨by rw[HO.out];exact ai _,λk=>I5 RH.out.2.1 (hP2 rfl) k.2⟩));have IY:=aW (hm.ext' HX9.out);clear hP1 hP2 UE hm;have Ee:=ik IY.out.ext HB1.out.2.2.2.1;have z1:=bQ _ (w.heap.size+1+1+1) 0 _ _ _ Ee;have z2:=gQ _ (w.heap.size+1+1+1) 0 _ _ Ee;have HR9:=aW Ee;clear Ee;go_wp2
       refine mg (w.heap.size+1+1+1) 30 _ (gK _ (w.heap.size+1+1+1) 0 _ _ (.slice none 0 0) HR9.out) underlying30 ?_;exact⟨none,0,0,false,rfl,(λh=>by cases h),λ_=>⟨rq.out,rfl,rfl,rfl⟩,ll (ah HB1.out.2.2.2.2 IY.out.ext) (w.heap.size+1+1+1) 0 _⟩
      |true=>
       obtain⟨E',rfl,k1,k2,k3,k4⟩:=hP1 rfl;obtain⟨sOK,hHP⟩:=KI RH.out.2.1 RH.out.2.2 k1 k2 k3;have hNP:=k4.set (p:=⟨w6.heap.size,0,none⟩) (by show w6.heap.size<W7.heap.size;have:=HW7.out;omega) (.slice aP E'.length cP);have hNW:=HW7.out;have adk:W7.heap.size<=(w8.setCell ⟨w6.heap.size,0,none⟩ (.slice aP E'.length cP)).heap.size:=bZ HX8.out.size (dH (w:=w8) (p:=⟨w6.heap.size,0,none⟩) (v:=.slice aP E'.length cP)).size;have HKK:=nY sOK hHP k3;clear hP1 hP2 k1 k2 k3 k4 sOK hHP;go_upto_region 18 with fail
       generalize w8.setCell ⟨w6.heap.size,0,none⟩ (.slice aP E'.length cP)=W9 at *;have WJ:Ext W9 ((W9.alloc (.cells #[.slice aP E'.length cP] 30)).drew):=ah (bY (gz _ _) _) (dQ ⟨1,rfl⟩);have hmD:=hm.ext' HX9.out;have WW:=hNP.sup (S:=λb=>W7.heap.size<=b/\b<W9.heap.size) (λb hb=>hb.2) (λb h1 h2=>⟨h1,h2⟩);have h67:=UN.out.1;have hT:=λb (hb:W7.heap.size<=b/\b<W9.heap.size)=>hm.fresh (b:=b) (by omega)
       have b9:=bQ W9 lb 1 _ _ _ hmD.box;have g9:W9.cell? ⟨w6.heap.size,0,none⟩=some (.slice aP E'.length cP):=bQ W9 w6.heap.size 0 _ _ _ UE;simp only[gE]at b9;have OW:=hm.far bb HSB.out;have J8:=jm (Ps.ext HX9.out) OW;have hgb:w6.heap.size<W9.heap.size:=lt_of_cell g9;have hown:(Value.slice aq ys.length cq).ownBlock≠some w6.heap.size:=by
        first
         |exact(hm.fresh h67).2.1
         |exact(hm.fresh h67).2.2
       have gWA:((W9.alloc (.cells #[.slice aP E'.length cP] 30)).drew).cell? ⟨w6.heap.size,0,none⟩=some (.slice aP E'.length cP):=aI g9 _;have nWA:((W9.alloc (.cells #[.slice aP E'.length cP] 30)).drew).cell? ⟨W9.heap.size,0,none⟩=some (.slice aP E'.length cP):=dW _ _ _;have Cf:=nY hmD WW hT;have Ko:=nY WJ gWA nWA;have adN:bb<W9.heap.size:=bg (bW Ps) HX9.out.size;have hXl:=sU.out;clear hm hmD WW hT hNP UE OW Ps hNW adk hD7 WJ gWA nWA;refine oJ (λV=>V.cell? ⟨lb,1,none⟩=some (.slice aq ys.length cq)/\V.cell? ⟨w6.heap.size,0,none⟩=some (.slice aP E'.length cP)) [7,8] KV ⟨b9,g9⟩ (λaj ae=>?_);(refine bP 0 aj ae ?_;refine bP 1 aj ae ?_;refine bP 2 aj ae ?_;refine bP 3 aj ae ?_;refine bP 4 aj ae ?_);(refine jv aj (i:=5) λK hK=>?_;go_simp);(refine hK.out _ _ (λ_=>?_) ?_)
       .exact⟨aI b9 _,aI g9 _⟩
       clear hK K;(try simp only[nP]);refine jv aj (i:=6) λK hK=>?_
       refine jf rfl (.tmp 66) (.tmp 68) 80 rfl W2.heap.size 30 iF (.agg #[.slice none 0 0]) 1 24 underlying80 Q9 zF0 zF1 zF2 rfl (by decide) (.slice aq ys.length cq) ys.length ys rfl (dD Cf.out.1.r Ko.out.1) _ 1 _ [.slice aP E'.length cP] rfl rfl (.inr ⟨_,rfl,fD Ko.out.2.2⟩) (by intro u hu;simp only[eT]at hu;subst hu;rfl) (by unfold maxLen;omega) (by omega) (bZ Cf.out.1.sz Ko.out.1.size) ?_;intro v9 w9 Fv Av L8;obtain⟨x9,y9,rfl,-,-⟩:=bT Fv;have c9:=(mP ((fP Av).block w6.heap.size (bg hgb Ko.out.1.size) hown)).trans Ko.out.2.1;obtain⟨GG,q1,q2⟩:=Cf.out.1.acX Cf.out.2.1 Cf.out.2.2 Ko.out.1 Av Fv (by simp) rfl L8;have hst:=Qv (k:=1) (u:=.slice x9 (ys.length+1) y9) (lb:=lb) (b:=bb) Ko.out.1 Av adN (by first|exact J8.out.2.2.1|exact J8.out.2.2.2) J8.out.2.1;have YV:=jm GG (hst.trans J8.out.1);clear GG Fv Av L8 hst;(refine hK.out _ _ (λ_=>?_) ?_)
       .exact⟨q1,c9⟩
       clear hK K;(try simp only[nP]);refine nQ aj [7,8] [_,_] ?_;clear aj ae b9 g9 c9;have hlt2:i+1<=nd.2.length:=kg.out;have alU:i<24:=(by have:=HD.out.2.2.1;omega);go_wp2
       have HGR:Hid (o8 (gP t p) (-gP t p) C nd.2 (Gs++[E']) (i+1)):=aW (o8.next (k:=i) HR.out kg.out (by rw[<-HO.out];exact RH.out.1) (by rw[<-HO.out];exact HKK.out.1) (by rw[<-HO.out];exact HKK.out.2.1) HKK.out.2.2);go_roundw
       case rel=>exact⟨i+1,_,_,_,_,hlt2,by go_num,YV.out.1,aW (.inl HSB.out),YV.out.2,by first|exact HGR|exact HL,by first|exact HGR|exact HR⟩
       case measure=>simp[intOf];omega
    .have h1:¬(((i:Nat):Int)<((nd.2.length:Nat):Int)):=by omega
     have hie:i=nd.2.length:=(by omega);subst hie;go_wp2
     go_roundw
     case rel=>exact⟨1+1,lv,rv,xs,ys,Fs,Gs,S,by omega,by go_num,hm,HL,HR⟩
     case measure=>simp[intOf]
  .obtain⟨a0,c0,rfl,-,-⟩:=bT hm.l
   obtain⟨a1,c1,rfl,-,-⟩:=bT hm.r;have b0:=bQ wr lb 0 _ _ _ hm.box;have b1:=bQ wr lb 1 _ _ _ hm.box;simp only[gE]at b0 b1;have hF:o8 (gP t p) (gP t p) C nd.1 Fs nd.1.length:=HL.out;have hG:o8 (gP t p) (-gP t p) C nd.2 Gs nd.2.length:=HR.out;obtain⟨hX,hY⟩:=hm.sup.out;have hol:=HD.out.2.2.1
   have HMF:=aW (Js (.slice a0 xs.length c0) (.slice a1 ys.length c1) Fs Gs wr (oH.gm hm.l rfl hX (by have:=hX.1;have:=hF.1;omega)) (oH.gm hm.r rfl hY (by have:=hY.1;have:=hG.1;omega))
    (λF hF'=>by
     obtain⟨j,hj,rfl⟩:=aQ.1 hF';have k:=hF.2 j hj (by have:=hF.1;omega);exact⟨k.2.2.1.1,k.2.2.2⟩)
    (λF hF'=>by
     obtain⟨j,hj,rfl⟩:=aQ.1 hF';have k:=hG.2 j hj (by have:=hG.1;omega);exact⟨k.2.2.1.1,k.2.2.2⟩) (by have:=hF.1;omega) (by have:=hG.1;omega))
   have Ut:=jm hF hG;have HMr:=aW hm;clear hF hG hX hY hol HL HR hm;go_upto_region 22 with(go_at_call 79;refine HMF.out.mono ?_;rintro e w5 ⟨aM,nM,cM,okM,rfl,hM1,hM2,hx5⟩)
   have hx6:Ext w5 (w5.alloc (.cells #[.slice aM nM cM] 30)):=(by go_grown);have hb6:=eu w5 (.cells #[.slice aM nM cM] 30);have IY:=aW (HMr.out.ext' (ah hx5 hx6));have Zu:=aW hx6;clear hx5 hx6 b0 b1 HMF;generalize w5.alloc (.cells #[.slice aM nM cM] 30)=W6 at *;cases okM with
   |false=>
    have rq:Hid (¬rQ (gP t p) (bz C)):=aW (aaa HC.out.2.1 HD2.out HG.out.2.2.2 Ut.out.1 Ut.out.2 (hM2 rfl));clear hM1 hM2 hb6;have Ee:=ik IY.out.ext HB1.out.2.2.2.1;have z1:=bQ _ (w.heap.size+1+1+1) 0 _ _ _ Ee;have z2:=gQ _ (w.heap.size+1+1+1) 0 _ _ Ee;have HR9:=aW Ee;clear Ee;go_wp2
    refine mg (w.heap.size+1+1+1) 30 _ (gK _ (w.heap.size+1+1+1) 0 _ _ (.slice none 0 0) HR9.out) underlying30 ?_;exact⟨none,0,0,false,rfl,(λh=>by cases h),λ_=>⟨rq.out,rfl,rfl,rfl⟩,ll (ah HB1.out.2.2.2.2 IY.out.ext) (w.heap.size+1+1+1) 0 _⟩
   |true=>
    obtain⟨M,rfl,iM,sM,fM,hNM⟩:=hM1 rfl;have x0:=bQ W6 w5.heap.size 0 _ _ _ hb6;simp only[gE]at x0;have HCO:=aW (pW (.slice aM M.length cM) M W6 ((hNM.weaken (aU _)).ext Zu.out) iM fM);have Xe:=Z9 HC.out.2.1 HD2.out Ut.out.1 Ut.out.2 iM sM;have HOK:=aW (ac1 HC.out.2.1 HD2.out Ut.out.1 Ut.out.2 Xe fM);have HMD:=jm Xe fM;have hr6:=ik IY.out.ext HB1.out.2.2.2.1;have HR6:=aW hr6;clear hM1 hM2 hb6 iM sM fM hNM Xe hr6
    go_wp2_with (go_at_call 32;refine HCO.out.mono ?_;rintro e w7 ⟨K,vK,Fr,okK,sl,rfl,hK,hok,ze,qG,hx7⟩
                 obtain⟨aK,cK,rfl⟩:=qG.top;have Q5:=ik hx7 HR6.out;have z1:=bQ _ (w.heap.size+1+1+1) 0 _ _ _ Q5;have z2:=gQ _ (w.heap.size+1+1+1) 0 _ _ Q5;have HR7:=aW Q5;have HKK:=Aw hK hok ze qG hx7;clear hK hok ze qG hx7 Q5)
    refine mg (w.heap.size+1+1+1) 30 #[.slice aK Fr.length cK] (gK _ (w.heap.size+1+1+1) 0 _ _ (.slice aK Fr.length cK) HR7.out) underlying30 ?_;obtain⟨hK,hok,ze,qG,hx7⟩:=HKK.out;obtain⟨pl,pr⟩:=qK HC.out.2.1.good (Ch HC.out.2.1);have yo:=LZ HG.out.2.2.2 HMD.out.1 hK;have hsc:0<=gP t p:=Int.mul_nonneg HG.out.2.2.1 (by exact_mod_cast aU (2 ^ (16-p)));have fK:=L6 hsc HC.out.2.2.1 HG.out.2.2.2 pl pr HMD.out.1 HMD.out.2 yo;rw[fK]at hok;subst hok;simp only[if_true]at ze;subst ze;have hz:=IY.out.ext.size;have hz2:=bW HR6.out;exact⟨aK,Fr.length,cK,true,rfl,λ_=>⟨HOK.out,Fr,sl,rfl,yo,fK,(qG.oP (dH (p:=⟨w.heap.size+1+1+1,0,none⟩)) (λb hb=>by subst hb;show w.heap.size+1+1+1<W6.heap.size;exact hz2)).lower (by omega)⟩,(λh=>by cases h),ll (ah (ah HB1.out.2.2.2.2 IY.out.ext) hx7) (w.heap.size+1+1+1) 0 _⟩
