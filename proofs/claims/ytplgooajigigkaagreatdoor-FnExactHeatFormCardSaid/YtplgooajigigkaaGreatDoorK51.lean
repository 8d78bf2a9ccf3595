/- 51 -/
import Derived.Test.YtplgooajigigkaaGreatDoorK50
set_option maxRecDepth 100000
set_option maxHeartbeats 4000000
namespace Go.Proofs.YtplgooajigigkaaGreatDoor
open Tryz
section
open bE (dh Nd Gm Canon jc bI bz Same vl)
variable {C F:dh}
theorem Sn(hC:bI C)(hF:bI F)(cC:Canon (bz C))(e:jc (bz C) (bz F)):∀i,i<C.length->∃j,j<F.length/\jc (vl C i) (vl F j):=by
 have hF0:F.length-1<F.length:=Ch hF;have Q1:∀{d f:Gm},(∃j,j<F.length/\d=vl F j)->f∈d.l\/f∈d.r->∃j,j<F.length/\f=vl F j:=by
  rintro d f ⟨j,hj,rfl⟩ hf;obtain⟨k,hk,_,rfl⟩:=Be hF.good.wf hf;exact⟨k,by omega,rfl⟩
 have key:∀i,bE.Reach C (C.length-1) i->Canon (vl C i)/\∃j,j<F.length/\jc (vl C i) (vl F j):=by
  intro i hr
  induction hr with
  |here=>exact⟨cC,F.length-1,hF0,e⟩
  | @left j k nd hr hd hk ih=>
   obtain⟨c,m,hm,ee⟩:=ih;have hx:vl C k∈(vl C j).l:=(by rw[bE.lI hC.good.wf hd];exact aV hk);refine⟨c.l hx,?_⟩;obtain⟨y,hy,ey⟩:=bE.Bh (Q:=λd=>∃j,j<F.length/\d=vl F j) c ee (λa ha b hb d hd=>Q1 (Q1 (Q1 ⟨m,hm,rfl⟩ (.inl ha)) (.inr hb)) (.inl hd)) (λd hd f hf g hg=>Q1 (Q1 hd (.inr hf)) (.inl hg)) hx;obtain⟨q,hq,rfl⟩:∃j,j<F.length/\y=vl F j:=hy.elim (λh=>Q1 ⟨m,hm,rfl⟩ (.inl h)) id;exact⟨q,hq,ey⟩
  | @right j k nd hr hd hk ih=>
   obtain⟨c,m,hm,ee⟩:=ih;have hx:vl C k∈(vl C j).r:=(by rw[bE.lH hC.good.wf hd];exact aV hk);refine⟨c.r hx,?_⟩;obtain⟨y,hy,ey⟩:=bE.Bf (Q:=λd=>∃j,j<F.length/\d=vl F j) c ee (λa ha b hb d hd=>Q1 (Q1 (Q1 ⟨m,hm,rfl⟩ (.inr ha)) (.inl hb)) (.inr hd)) (λd hd f hf g hg=>Q1 (Q1 hd (.inl hf)) (.inr hg)) hx;obtain⟨q,hq,rfl⟩:∃j,j<F.length/\y=vl F j:=hy.elim (λh=>Q1 ⟨m,hm,rfl⟩ (.inr h)) id;exact⟨q,hq,ey⟩
 exact λi hi=>(key i (hC.reach i hi)).2
theorem TS(hF:bI F)(h:fA C (bz F)):C.length<=F.length:=by
 obtain⟨hC,g,s,cg,eg⟩:=id h;have cC:Canon (bz C):=bE.lQ (bE.dU s) cg;have hn:=Sn hC hF cC (s.eqv.trans eg);have hc:=rf hC cC
 let f:Nat->Nat:=λi=>if hi:i<C.length then(hn i hi).choose else 0
 have hf:∀i (hi:i<C.length),f i<F.length/\jc (vl C i) (vl F (f i)):=λi hi=>by
  simp only[f,dif_pos hi];exact(hn i hi).choose_spec
 have inj:((List.range C.length).map f).Nodup:=by
  rw[List.nodup_iff_pairwise_ne,gU];refine fQ (λ{a b} ha hb hab e=>?_) sZ;have ha:=dz.1 ha;have hb:=dz.1 hb;have h1:=(hf a ha).2;have h2:=(hf b hb).2;rw[e]at h1;have:=bE.lX hC.good a b ha hb (bE.fT (hc a ha) (hc b hb) (h1.trans h2.symm));omega
 have:=jW inj (n:=F.length) λx hx=>by
  obtain⟨i,hi,rfl⟩:=az.1 hx;exact(hf i (dz.1 hi)).1
 simpa using this
end
section
open Go.RowKit
open bE (dh Nd Gm vl Same bI bz Canon N0)
theorem Wj(x:Value)(n:Nat):(madeCells #[x] n).toList=List.replicate n x:=by
 apply qA;intro i;by_cases h:i<n
 .simp[madeCells,h,Nat.mod_one]
 .simp[madeCells,h]
def Un(T:Int)(g:Gm)(w:World)(e:Ending)(w':World):Prop:=
 ∃(a:Option Addr) (n c:Nat) (ok:Bool),e=.returned (.tuple #[.agg #[.slice a n c],.bool ok])/\(ok=true->rQ T g/\∃E,n=E.length/\Ga T g E/\dm E=true/\oN (λb=>w.heap.size<=b/\b<w'.heap.size) (λV=>dI V 0 (.slice a n c) E) w')/\(ok=false->¬rQ T g/\n=0)/\Ext w w'
theorem UT(W0 U:World)(aC:Option Addr)(cC:Nat)(C:dh)(t:Int)(p:Nat)(hx:Ext W0 U)(hN:dI W0 0 (.slice aC C.length cC) C)(hC:bI C)(cC':∀i,i<C.length->Canon (vl C i))(hl:C.length<=120)(hg:dS t p=true)(h0:0<=t){W:World}{db mb wb:Nat}
 (hz:W.heap.size=U.heap.size+3) (hb:(db=U.heap.size/\mb=U.heap.size+1)\/(mb=U.heap.size/\db=U.heap.size+1)) (hw:wb=U.heap.size+2) (hxU:Ext U W)
 (hd:W.ownsRow 0 3 1 (.slice (some ⟨db,0,none⟩) C.length C.length) C.length ((List.replicate C.length (0:Int)).map (Value.int .i64))) (hm:W.ownsRow 0 30 1 (.slice (some ⟨mb,0,none⟩) C.length C.length) C.length (List.replicate C.length (.slice none 0 0)))
 (hblk:W.heap[wb]?=some (.cells #[.slice aC C.length cC,.int .i64 t,.int .i64 (p:Int),.bool false,.slice (some ⟨db,0,none⟩) C.length C.length,.slice (some ⟨mb,0,none⟩) C.length C.length] 105 (0,0))):
 WC ⟨W0,W,wb,db,mb,aC,cC,C,t,p⟩/\WK ⟨W0,W,wb,db,mb,aC,cC,C,t,p⟩ (λ_=>False) W:=by
 have hz0:=hx.size;refine⟨⟨hblk,?_,?_,ah hx hxU,hN,hC,cC',hl,hg,h0⟩,⟨fJ.refl _ _,λb h=>h.elim,_,_,⟨hd,hm⟩,λk hk=>?_⟩⟩
 .show db<W.heap.size/\mb<W.heap.size/\db≠mb/\wb≠db/\wb≠mb
  rcases hb with⟨h1,h2⟩|⟨h1,h2⟩ <;> omega
 .show W0.heap.size<=db/\W0.heap.size<=mb
  rcases hb with⟨h1,h2⟩|⟨h1,h2⟩ <;> omega
 .replace hk:k<C.length:=hk
  exact⟨0,none,0,0,by simp[hk],by simp[hk],.inl rfl⟩
def Vx:List Row:=[⟨0,[],10,[3]⟩,⟨1,[],11,[4]⟩,⟨2,[],12,[2]⟩,⟨3,[],13,[3]⟩,⟨4,[3],14,[12]⟩,⟨5,[4],15,[13]⟩,⟨6,[5,5],16,[14,14]⟩,⟨7,[],17,[3]⟩,⟨8,[7],18,[16]⟩,⟨9,[8],19,[17]⟩,⟨10,[9,9],20,[18,18]⟩,⟨11,[0,1,2,6,10],21,[9,10,11,15,19]⟩,⟨12,[11],22,[20]⟩,⟨13,[12,0,1,2,3,4,5,6,7,8,9,10,11,12],9,[21]⟩]
theorem Oq(v:Value)(C:dh)(t:Int)(p:Nat)(w:World)(hv:dI w 0 v C)(hC:bI C)(cC:Canon (bz C))(hl:C.length<=120)(hg:dS t p=true)(h0:0<=t):
 Calls prog 29 #[.agg #[v],tY t p,.bool false] w (Un (gP t p) (bz C) w):=by
 obtain⟨i0,hi0,hz0,hz1,hz2⟩:=info_parts iU;obtain⟨iF,Q9,zF0,zF1,zF2⟩:=info_parts Fj;obtain⟨aC,Ej,rfl⟩:=hv.slice;have hmk:=λw:World=>run_make (P:=prog) w 41 3 i0 (.int .i64 0) underlying41 hi0 hz0 .i64 .i64 (C.length:Int) (C.length:Int) (by omega) (by omega) (by rw[hz2];omega) (by omega)
 have agM:=λw:World=>run_make (P:=prog) w 80 30 iF (.agg #[.slice none 0 0]) underlying80 Q9 zF0 .i64 .i64 (C.length:Int) (C.length:Int) (by omega) (by omega) (by rw[zF2];omega) (by omega)
 simp only[hz1,zF1,kT,jB,Value.cells]at hmk agM;obtain⟨W0,hW0,hx0,b0,b1,b2,Ng⟩:=Zt w (.cells #[.slice aC (List.length C) Ej] 30) (.cells #[.int .i64 t,.int .i64 (p:Int)] 34) (.cells #[.slice none 0 0] 30);have c0:=bQ W0 w.heap.size 0 _ _ _ b0;have hd1:oQ W0 (w.heap.size+1) t p:=b1;obtain⟨y0,y1⟩:=hd1.cells;simp only[gE]at c0;have h1:=fV.2 hC.ne;obtain⟨cs1,hcs1⟩:=fu (madeCells #[Value.int .i64 0] C.length);obtain⟨cs2,hcs2⟩:=fu (madeCells #[Value.slice none 0 0] C.length);rw[<-hcs1]at hmk;rw[<-hcs2]at agM;have afM:∀U:World,(U.alloc (.cells cs1 3)).ownsRow 0 3 1 (.slice (some ⟨U.heap.size,0,none⟩) C.length C.length) C.length ((List.replicate C.length (0:Int)).map (Value.int .i64)):=λU=>by
  have h:=World.ownsRow_lit U (base:=0) cs1 C.length (e:=3) (size:=1) (aU _) (by unfold maxLen;omega) (by rw[hcs1,size_madeCells];simp);rw[hcs1,wS,<-hcs1]at h;exact h
 have afL:∀U:World,(U.alloc (.cells cs2 30)).ownsRow 0 30 1 (.slice (some ⟨U.heap.size,0,none⟩) C.length C.length) C.length (List.replicate C.length (.slice none 0 0)):=λU=>by
  have h:=World.ownsRow_lit U (base:=0) cs2 C.length (e:=30) (size:=1) (aU _) (by unfold maxLen;omega) (by rw[hcs2,size_madeCells];simp);rw[hcs2,Wj,<-hcs2]at h;exact h
 have HW:=aW (λ(U W:World) (wb db mb:Nat) (hx:Ext W0 U)=>UT W0 U aC Ej C t p hx (hv.ext hx0) hC (rf hC cC) hl hg h0 (W:=W) (wb:=wb) (db:=db) (mb:=mb));have HR:=jm afM afL;have HX:=Ap hx0 b0 b2 Ng;have HL:=aW h1;clear afM afL hcs1 hcs2 hv hC cC hg h0 b0 b1 b2 hx0 Ng hd1 h1;rw[gM];go_enter Tryz.func29,Tryz.ntmps29
 go_upto_region 1 with fail
 rw[<-hW0];clear hW0;go_cut [8] (λx wc=>∃wb db mb:Nat,x=.pointer (some ⟨wb,0,none⟩)/\Ext W0 wc/\Hid (WC ⟨W0,wc,wb,db,mb,aC,Ej,C,t,p⟩/\WK ⟨W0,wc,wb,db,mb,aC,Ej,C,t,p⟩ (λ_=>False) wc))
 case first=>
  have hxd:Ext W0 W0.drew:=dQ ⟨1,rfl⟩;have ae:(λV:World=>V.cell? ⟨w.heap.size,0,none⟩=some (.slice aC C.length Ej)/\V.cell? ⟨w.heap.size+1,0,none⟩=some (.int .i64 t)/\V.cell? ⟨w.heap.size+1,1,none⟩=some (.int .i64 (p:Int))) W0.drew:=⟨fw hxd c0,fw hxd y0,fw hxd y1⟩;refine oJ (λV:World=>V.cell? ⟨w.heap.size,0,none⟩=some (.slice aC C.length Ej)/\V.cell? ⟨w.heap.size+1,0,none⟩=some (.int .i64 t)/\V.cell? ⟨w.heap.size+1,1,none⟩=some (.int .i64 (p:Int))) [13] Vx ae (λaj ae=>?_);obtain⟨U,hU⟩:=fu W0.drew;rw[<-hU]at ae hxd ⊢;clear hU c0 y0 y1;obtain⟨k0,k1,k2⟩:=ae;have ae:=And.intro k0 (And.intro k1 k2);(refine bP 0 aj ae ?_;refine bP 1 aj ae ?_;refine bP 2 aj ae ?_;refine bP 3 aj ae ?_;refine bP 4 aj ae ?_;refine bP 5 aj ae ?_;refine bP 7 aj ae ?_;refine bP 8 aj ae ?_;refine bP 9 aj ae ?_);refine gX aj (i:=6) (j:=10) (by kernel_rfl) ?_ ?_
  ·(refine ui (i:=6) λK hK=>?_;go_simp)
   (refine hK.out _ _ (λ_=>?_) ?_)
   .exact⟨aI k0 _,aI k1 _,aI k2 _⟩
   clear hK K;(try simp only[nP]);(refine jv aj (i:=10) λK hK=>?_;go_simp);(refine hK.out _ _ (λ_=>?_) ?_)
   .exact⟨aI (aI k0 _) _,aI (aI k1 _) _,aI (aI k2 _) _⟩
   clear hK K;(try simp only[nP]);have ae:=And.intro (aI (aI k0 (.cells cs1 3)) (.cells cs2 30)) (And.intro (aI (aI k1 (.cells cs1 3)) (.cells cs2 30)) (aI (aI k2 (.cells cs1 3)) (.cells cs2 30)));(refine bP 11 aj ae ?_);(refine jv aj (i:=12) λK hK=>?_;go_simp);(refine hK.out _ _ (λ_=>?_) ?_)
   .exact⟨aI ae.1 _,aI ae.2.1 _,aI ae.2.2 _⟩
   clear hK K;(try simp only[nP]);refine nQ aj [13] [_] ?_;clear aj ae;go_wp2
   go_meet
   refine⟨_,U.heap.size,(U.heap.size+1),rfl,ah hxd (by go_grown),aW (HW.out U _ _ _ _ hxd ?_ (.inl ⟨rfl,rfl⟩) rfl (by go_grown) ?_ ?_ ?_)⟩
   .simp only[fU]
   .exact((HR.out.1 U).alloc _).alloc _
   .have h:=(HR.out.2 (U.alloc (.cells cs1 3))).alloc (.cells #[.slice aC C.length Ej,.int .i64 t,.int .i64 (p:Int),.bool false,.slice (some ⟨U.heap.size,0,none⟩) C.length C.length,.slice (some ⟨U.heap.size+1,0,none⟩) C.length C.length] 105)
    rw[fU]at h;exact h
   .have h:=eu ((U.alloc (.cells cs1 3)).alloc (.cells cs2 30)) (.cells #[.slice aC C.length Ej,.int .i64 t,.int .i64 (p:Int),.bool false,.slice (some ⟨U.heap.size,0,none⟩) C.length C.length,.slice (some ⟨(U.heap.size+1),0,none⟩) C.length C.length] 105)
    rw[fU,fU]at h;exact h
  ·(refine ui (i:=10) λK hK=>?_;go_simp)
   (refine hK.out _ _ (λ_=>?_) ?_)
   .exact⟨aI k0 _,aI k1 _,aI k2 _⟩
   clear hK K;(try simp only[nP]);(refine jv aj (i:=6) λK hK=>?_;go_simp);(refine hK.out _ _ (λ_=>?_) ?_)
   .exact⟨aI (aI k0 _) _,aI (aI k1 _) _,aI (aI k2 _) _⟩
   clear hK K;(try simp only[nP]);have ae:=And.intro (aI (aI k0 (.cells cs2 30)) (.cells cs1 3)) (And.intro (aI (aI k1 (.cells cs2 30)) (.cells cs1 3)) (aI (aI k2 (.cells cs2 30)) (.cells cs1 3)));(refine bP 11 aj ae ?_);(refine jv aj (i:=12) λK hK=>?_;go_simp);(refine hK.out _ _ (λ_=>?_) ?_)
   .exact⟨aI ae.1 _,aI ae.2.1 _,aI ae.2.2 _⟩
   clear hK K;(try simp only[nP]);refine nQ aj [13] [_] ?_;clear aj ae;go_wp2
   go_meet
   refine⟨_,(U.heap.size+1),U.heap.size,rfl,ah hxd (by go_grown),aW (HW.out U _ _ _ _ hxd ?_ (.inr ⟨rfl,rfl⟩) rfl (by go_grown) ?_ ?_ ?_)⟩
   .simp only[fU]
   .have h:=(HR.out.1 (U.alloc (.cells cs2 30))).alloc (.cells #[.slice aC C.length Ej,.int .i64 t,.int .i64 (p:Int),.bool false,.slice (some ⟨U.heap.size+1,0,none⟩) C.length C.length,.slice (some ⟨U.heap.size,0,none⟩) C.length C.length] 105)
    rw[fU]at h;exact h
   .exact((HR.out.2 U).alloc _).alloc _
   .have h:=eu ((U.alloc (.cells cs2 30)).alloc (.cells cs1 3)) (.cells #[.slice aC C.length Ej,.int .i64 t,.int .i64 (p:Int),.bool false,.slice (some ⟨(U.heap.size+1),0,none⟩) C.length C.length,.slice (some ⟨U.heap.size,0,none⟩) C.length C.length] 105)
    rw[fU,fU]at h;exact h
 case rest=>
  obtain⟨wb,db,mb,rfl,Cx,HCK⟩:=hcut;have r2:=ik Cx HX.out.2.2.1;have cf:=bQ W0 w.heap.size 0 _ _ _ HX.out.2.1;simp only[gE]at cf;have c0:=fw Cx cf;have hAT:=ael _ HCK.out.1 C.length (λ_=>False) (C.length-1) wc (by have:=HL.out;omega) (by show C.length-1<C.length;have:=HL.out;omega) HCK.out.2;rw[show((C.length-1:Nat):Int)=(C.length:Int)-1 by have:=HL.out;omega]at hAT;have HAT:=aW hAT;have HE:=jm Cx r2;clear Cx r2 cf hAT
  go_wp2_with (go_at_call 67;refine HAT.out.mono ?_;rintro e w3 ⟨a3,n3,c3,ok3,rfl,hK3,Mo,hy,hn⟩
               have nr:¬DM ⟨W0,wc,wb,db,mb,aC,Ej,C,t,p⟩ (w.heap.size+1+1):=λq=>by have h1:=HCK.out.1.old;have h2:=HX.out.2.2.2;rcases q with q|q <;> (simp only at h1 q;omega)
               have r3:=(Mo.block _ (bW HE.out.2) nr).trans HE.out.2;have z1:=bQ w3 (w.heap.size+1+1) 0 _ _ _ r3;have z2:=gQ w3 (w.heap.size+1+1) 0 _ _ r3;have H3:=Aw hK3 hy hn r3 nr;clear hK3 Mo hy hn nr r3)
  refine mg (w.heap.size+1+1) 30 #[.slice a3 n3 c3] (gK _ (w.heap.size+1+1) 0 _ _ (.slice a3 n3 c3) H3.out.2.2.2.1) underlying30 ?_;obtain⟨hK3,hy,hn,r3,nr⟩:=H3.out;refine⟨a3,n3,c3,ok3,rfl,λh=>?_,λh=>hn h,ll (ah HX.out.1 (hK3.old HCK.out.1)) (w.heap.size+1+1) 0 _⟩;obtain⟨k1,E,k2,k3,k4,k5⟩:=hy h;refine⟨k1,E,k2,k3,k4,(k5.keep (dH (p:=⟨w.heap.size+1+1,0,none⟩) (v:=.slice a3 n3 c3)) (λb hb q=>?_)).mono (λb hb=>?_) (λb hb=>hb.2) (λ_ h=>h)⟩
  rotate_left
  .rcases hb with hb|hb
   .exact hb.elim
   .have:=HX.out.2.2.2;have:=HE.out.1.size;exact⟨by omega,by rw[World.size_setCell];exact hb.2⟩
  have q:b=w.heap.size+1+1:=q;rcases hb with hb|hb
  .exact hb
  .have:=HX.out.2.2.2;have:=HE.out.1.size;omega
end
section
open Go.RowKit
open bE (dh Nd Gm vl Same N0 Val Canon jc bI bz gd dO dP)
def abT(pp h:Nat)(F:dh)(w0:World)(e:Ending)(w':World):Prop:=
 ∃s' i,e=.returned (.int .i64 ((i:Nat):Int))/\dA w' pp h s'/\i<s'.D.length/\Canon (vl s'.D i)/\jc (vl s'.D i) (bz F)/\Ext w0 w'/\∀b,lg pp h s' b->w0.heap.size<=b
theorem JS(pp h:Nat)(v:Value)(F:dh)(w0 w:World)(hf:dI w0 0 v F)(hF:bI F)(hfit:dm F=true)(hx:Ext w0 w)(hP:dA w pp h uo)(hb0:∀b,lg pp h uo b->w0.heap.size<=b):
 Calls prog 57 #[.pointer (some ⟨pp,0,none⟩),.agg #[v]] w (abT pp h F w0):=by
 obtain⟨aF,gH,rfl,hcap,zz,-⟩:=id hf;obtain⟨l1,l2,uq⟩:=l6 hfit;have hx1:Ext w (w.alloc (.cells #[.slice aF F.length gH] 30)):=by go_grown
 have hb1:=eu w (.cells #[.slice aF F.length gH] 30);have HA:Hid (∀x,x∈F->x.1.length<=1000000/\x.2.length<=1000000):=λx hx=>by
  obtain⟨i,hi,rfl⟩:=aQ.1 hx;have:=uq i hi;exact⟨by omega,by omega⟩
 have HF:=aW hf;have HI:=aW hF;clear uq hfit hf hF;go_enter Tryz.func57,Tryz.ntmps57
 go_upto_region 1 with fail
 generalize w.alloc (.cells #[.slice aF F.length gH] 30)=W at *;have c0:=bQ W w.heap.size 0 _ _ _ hb1;simp only[gE]at c0;have Mf:=aW (sH pp h uo (.slice aF F.length gH) F w0 W HF.out HI.out.good.wf (by omega) HA.out (ah hx hx1) (hP.ext hx1) hb0 (by simp[uo];omega));clear hx hx1 hP hb0 hb1
 go_wp2_with (first
  |(go_at_call 73;refine(EJ pp h s3 j3 w3 hP3 hj3 (by have h1:=hD3;have h2:=EU (j3+1) s3.cn;simp[uo]at h1;omega)).mono ?_;rintro e w4 ⟨s4,j4,rfl,jq,aaH,hG4⟩
    obtain⟨h1,h2⟩:=jq.pool.yA.lt j3 j4 aaH;obtain⟨h3,h4,_⟩:=jq.pool.yA.ok j3 j4 aaH;have HV:=nY h2 h3 (h4.trans (by rw[jq.vl hP3.good.wf hj3];exact hs3.eqv)))
  |(go_at_call 74;refine Mf.out.mono ?_;rintro e w3 ⟨s3,j3,rfl,hj3,hs3,iq,hD3,mZ,hB3⟩
    have hP3:=iq.pool))
 go_ret
 exact⟨s4,j4,rfl,jq.pool,HV.out.1,HV.out.2.1,HV.out.2.2,ko mZ jq.keep (λb c=>hB3 b c),λb hb=>by
  rcases jq.own b hb with c|c
  .exact hB3 b c
  .have:=mZ.size;omega⟩
def Uf(F:dh)(w:World)(e:Ending)(w':World):Prop:=
 ∃t p ok,e=.returned (.tuple #[tY t p,.bool ok])/\Ext w w'/\∃g,Canon g/\jc g (bz F)/\(ok=true->∃k,Val g k/\t=dO 16 k/\p=dP 16 k)/\(ok=false->¬N0 g)
theorem Jo(v:Value)(F:dh)(w:World)(hf:dI w 0 v F)(hF:bI F)(hfit:dm F=true):Calls prog 20 #[.agg #[v]] w (Uf F w):=by
 obtain⟨aF,gH,rfl,hcap,zz,-⟩:=id hf;have hb1:((w.alloc (.cells #[.slice aF F.length gH] 30)).alloc (.cells #[.int .i64 0,.int .i64 0] 34)).heap[w.heap.size]?=some (.cells #[.slice aF F.length gH] 30 (0,0)):=by
  rw[jo _ _ _ (by simp)];exact eu _ _
 have hb2:((w.alloc (.cells #[.slice aF F.length gH] 30)).alloc (.cells #[.int .i64 0,.int .i64 0] 34)).heap[w.heap.size+1]?=some (.cells #[.int .i64 0,.int .i64 0] 34 (0,0)):=by
  have h:=eu (w.alloc (.cells #[.slice aF F.length gH] 30)) (.cells #[.int .i64 0,.int .i64 0] 34);rw[fU]at h;exact h
 have hx1:Ext w ((w.alloc (.cells #[.slice aF F.length gH] 30)).alloc (.cells #[.int .i64 0,.int .i64 0] 34)):=by go_grown
 have HG:=aW (λV (hV:Ext w V)=>ni (.slice aF F.length gH) F V (hf.ext hV) hF hfit);have HF:=aW hf;have HI:=jm hF hfit;clear hfit hf hF;go_enter Tryz.func20,Tryz.ntmps20
 go_upto_region 1 with fail
 generalize (w.alloc (.cells #[.slice aF F.length gH] 30)).alloc (.cells #[.int .i64 0,.int .i64 0] 34)=W at *;have c0:=bQ W w.heap.size 0 _ _ _ hb1;simp only[gE]at c0;go_upto_region 3 with(go_at_call 54;refine(HG.out W hx1).mono ?_;rintro e w1 ⟨rfl,hxg⟩)
 have hE1:=ah hx1 hxg;go_upto_region 4 with(go_at_call 55;refine(qY w1).mono ?_;rintro e w2 ⟨h,hh,rfl,hp2,tT,hz2,hx2⟩)
 subst hh;have vP:=dA.empty hp2 tT;have hcc:w2.cell? ⟨w.heap.size,0,none⟩=some (.slice aF F.length gH):=fw hx2 (fw hxg c0);have hr1:w1.heap[w.heap.size+1]?=some (.cells #[.int .i64 0,.int .i64 0] 34 (0,0)):=ik hxg hb2;have hlt2:w.heap.size+1<w1.heap.size:=bW hr1;generalize hhz:w1.heap.size=h at *;have hCO:=aW (JS (h+1+1+1+1+1) h (.slice aF F.length gH) F w1 w2 (HF.out.ext hE1) HI.out.1 HI.out.2 hx2 vP (λb hb=>by rcases uY hb with e|e <;> omega));have HE1:=aW hE1;clear hp2 tT hz2 vP hx2 hE1 hx1 hxg hb1 hb2 c0
 go_wp2_with (first
  |(go_at_call 56;refine(VA _ h s3 j3 w3 hP3 hj3 hC3).mono ?_;rintro e w4 ⟨t4,p4,ok4,rfl,jq,hv4⟩;simp only[gM]
    have oK:=ko mZ jq.keep (λb c=>hB3 b c);have hr4:=(oK.block _ (by omega)).trans hr1;obtain⟨q0,q1,q2,q3⟩:=eZ hr4;have q4:=(q2 (.int .i64 t4)).1;have q5:=(q2 (.int .i64 t4)).2;have HQ:=aW (q3 (.int .i64 t4) (.int .i64 (p4:Int)));have Zw:=aW hv4;have HE4:=aW oK;clear q2 q3 hr4 hv4 oK)
  |(go_at_call 57;refine hCO.out.mono ?_;rintro e w3 ⟨s3,j3,rfl,hP3,hj3,hC3,Zh,mZ,hB3⟩))
 refine mg (w.heap.size+1) 34 #[.int .i64 t4,.int .i64 (p4:Int)] HQ.out underlying34 ?_;exact⟨t4,p4,ok4,rfl,ll (ll (ah HE1.out HE4.out) (w.heap.size+1) 0 _) (w.heap.size+1) 1 _,vl s3.D j3,hC3,Zh,Zw.out.1,Zw.out.2⟩
end
section
open Go.RowKit
open bE (dh Nd Gm vl bI bz Same plus Canon jc nf N0 Val)
variable {t:Int} {p n:Nat}
theorem PR{C:dh}(hC:bI C){i:Nat}(hi:i<C.length-1):bE.born (vl C i)<bE.born (bz C):=by
 have key:∀j,bE.Reach C (C.length-1) j->j=C.length-1\/bE.born (vl C j)<bE.born (bz C):=by
  intro j hr
  induction hr with
  |here=>exact .inl rfl
  | @left j k nd hr hd hk ih=>
   have h:bE.born (vl C k)<bE.born (vl C j):=bE.yC (by rw[bE.lI hC.good.wf hd];exact aV hk);rcases ih with rfl|ih
   .exact .inr h
   .exact .inr (by omega)
  | @right j k nd hr hd hk ih=>
   have h:bE.born (vl C k)<bE.born (vl C j):=bE.yB (by rw[bE.lH hC.good.wf hd];exact aV hk);rcases ih with rfl|ih
   .exact .inr h
   .exact .inr (by omega)
 rcases key i (hC.reach i (by omega))with e|h
 .omega
 .exact h
theorem XZ(h:dS t p=true):dS (-t) p=true:=by
 rw[fe]at h ⊢;omega
def J5(t:Int)(p n:Nat):Prop:=
 ∀(v:Value) (F C:dh) (w:World),dI w 0 v F->bI F->dm F=true->fA C (bz F)->bE.born (bz C)<n->
  Calls prog 9 #[.agg #[v],tY t p] w (zu (gP t p) (bz C) w)
theorem Tz(ih:J5 t p n)(v:Value)(E:dh)(tb:Nat)(g:Gm)(w:World)(hv:dI w 0 v E)(hE:bI E)(fE:dm E=true)(eg:bz E=g)(cg:Canon g)(hn:bE.born g<n)(ht:oQ w tb t p):
 Calls prog 35 #[.agg #[v],.pointer (some ⟨tb,0,none⟩)] w (Gb (gP t p) g w):=by
 obtain⟨aE,cE,rfl,-,-,-⟩:=id hv;obtain⟨W,hW,hx,hb0,hb1⟩:∃W,W=(w.alloc (.cells #[.slice aE E.length cE] 30)).alloc (.cells #[.slice none 0 0] 30)/\Ext w W/\W.heap[w.heap.size]?=some (.cells #[.slice aE E.length cE] 30 (0,0))/\W.heap[w.heap.size+1]?=some (.cells #[.slice none 0 0] 30 (0,0)):=by
  refine⟨_,rfl,by go_grown,?_,?_⟩
  .rw[jo _ _ _ (by simp only[fU];omega)];exact eu _ _
  .have h:=eu (w.alloc (.cells #[.slice aE E.length cE] 30)) (.cells #[.slice none 0 0] 30);rw[fU]at h;exact h
 have c0:=bQ W w.heap.size 0 _ _ _ hb0;simp only[gE]at c0;obtain⟨d0,d1⟩:=(ht.ext hx).cells;have hh:=(ih (.slice aE E.length cE) E E W (hv.ext hx) hE fE (CF hE (by rw[eg];exact cg)) (by rw[eg];exact hn)).mono (λ_ _ h=>h.post);rw[gM,eg]at hh;have HH:=aW hh;have HB:=jm hb1 hx;clear hb0 hb1 hx hh hv hE fE ht eg;go_enter Tryz.func35,Tryz.ntmps35
 go_upto_region 1 with fail
 rw[<-hW];clear hW
 go_wp2_with (go_at_call 9;refine HH.out.mono ?_;rintro e w2 ⟨a,n2,c,ok,rfl,h1,h2,hx2⟩
              have hr2:=ik hx2 HB.out.1;have z1:=bQ _ (w.heap.size+1) 0 _ _ _ hr2;have z2:=gQ _ (w.heap.size+1) 0 _ _ hr2;have HR:=aW hr2;have HO:=nY h1 h2 hx2;clear h1 h2 hx2 hr2)
 refine mg (w.heap.size+1) 30 #[.slice a n2 c] (gK _ (w.heap.size+1) 0 _ _ (.slice a n2 c) HR.out) underlying30 ?_;obtain⟨h1,h2,hx2⟩:=HO.out;have hz:=HB.out.2.size;have hz2:=bW HB.out.1;refine⟨a,n2,c,ok,rfl,λh=>?_,h2,ll (ah HB.out.2 hx2) (w.heap.size+1) 0 _⟩;obtain⟨k1,E',e1,k2,k3,k4⟩:=h1 h;exact⟨k1,E',e1,k2,k3,(k4.set (p:=⟨w.heap.size+1,0,none⟩) hz2 _).weaken hz⟩
def R6:List Row:=[⟨0,[],31,[6]⟩,⟨1,[],32,[3]⟩,⟨2,[],33,[3]⟩,⟨3,[],34,[3]⟩,⟨4,[3],35,[33]⟩,⟨5,[0,1,2,4,4],36,[30,31,32,34]⟩,⟨6,[5],37,[35]⟩,⟨7,[5],38,[35]⟩,⟨8,[6,5,0,1,2,3,4,5,6,7],0,[4,36]⟩,⟨9,[7,8,0,1,2,3,4,5,6,7,8],6,[37]⟩]
theorem Tw(hg:dS t p=true)(ht:0<=t)(ih:J5 t p n):J5 t p (n+1):=by
 intro v F C w hv hF fF hC hn;obtain⟨aF,cpF,rfl,-,-,-⟩:=id hv;have cC:Canon (bz C):=mG hC;have hlC:C.length<=120:=bZ (TS hF hC) (l6 fF).2.1;obtain⟨W,hW,hx,hb0,hb1,hb2⟩:∃W,W=((w.alloc (.cells #[.slice aF F.length cpF] 30)).alloc (.cells #[.int .i64 t,.int .i64 (p:Int)] 34)).alloc (.cells #[.slice none 0 0] 30)/\Ext w W/\W.heap[w.heap.size]?=some (.cells #[.slice aF F.length cpF] 30 (0,0))/\oQ W (w.heap.size+1) t p/\W.heap[w.heap.size+1+1]?=some (.cells #[.slice none 0 0] 30 (0,0)):=by
  refine⟨_,rfl,by go_grown,?_,?_,?_⟩
  .rw[jo _ _ _ (by simp only[fU];omega),jo _ _ _ (by simp only[fU];omega)];exact eu _ _
  .show _=_
   rw[jo _ _ _ (by simp only[fU];omega)];have h:=eu (w.alloc (.cells #[.slice aF F.length cpF] 30)) (.cells #[.int .i64 t,.int .i64 (p:Int)] 34);rw[fU]at h;exact h
  .have h:=eu ((w.alloc (.cells #[.slice aF F.length cpF] 30)).alloc (.cells #[.int .i64 t,.int .i64 (p:Int)] 34)) (.cells #[.slice none 0 0] 30);rw[fU,fU]at h;exact h
 have c0:=bQ W w.heap.size 0 _ _ _ hb0;simp only[gE]at c0;have HCO:=aW (pW (.slice aF F.length cpF) F W (hv.ext hx) hF fF);have HC:=nY hC cC hlC;have HG:=nY hg ht hn;have HB:=nY hx hb1 hb2;clear hC cC hlC hg hn hx hb0 hb1 hb2 hv hF fF;rw[gM];go_enter Tryz.func9,Tryz.ntmps9
 go_upto_region 1 with fail
 rw[<-hW];clear hW
 go_upto_region 2 with(go_at_call 32;refine HCO.out.mono ?_;rintro e w1 ⟨K,vK,Fr,okK,sl,rfl,hK,hok,ze,qG,hx1⟩
                       obtain⟨aK,cK,rfl⟩:=qG.top;have hKC:=fA.unique hK HC.out.1;subst hKC;have HKK:=nY hok ze qG;clear hok ze qG hK)
 have hxa:Ext w1 (w1.alloc (.cells #[.slice aK Fr.length cK] 30)):=by go_grown
 have hbk:=eu w1 (.cells #[.slice aK Fr.length cK] 30);have hX2:=ah hx1 hxa;have Zv:=jm hX2 hxa;have HW1:=aW hx1.size;clear hxa hX2 hx1 c0;generalize w1.alloc (.cells #[.slice aK Fr.length cK] 30)=W2 at *;have hr2:=ik Zv.out.1 HB.out.2.2;have z1:=bQ W2 (w.heap.size+1+1) 0 _ _ _ hr2;have z2:=gQ W2 (w.heap.size+1+1) 0 _ _ hr2;have HR2:=aW hr2;clear hr2;obtain⟨hok,ze,qG⟩:=HKK.out;have hsc:0<=gP t p:=Int.mul_nonneg HG.out.2.1 (by exact_mod_cast aU (2 ^ (16-p)));have HSC:=aW hsc;clear hsc;cases okK with
 |false=>
  have rq:Hid (¬rQ (gP t p) (bz K)):=aW λk=>by
   rw[Lf HSC.out HC.out.1.1 HC.out.2.1 HC.out.2.2 k]at hok;cases hok
  clear hok ze qG hbk;go_wp2
  refine mg (w.heap.size+1+1) 30 _ (gK _ (w.heap.size+1+1) 0 _ _ (.slice none 0 0) HR2.out) underlying30 ?_;exact⟨none,0,0,false,rfl,(λh=>by cases h),λ_=>⟨rq.out,rfl,rfl,rfl⟩,ll (ah HB.out.1 Zv.out.1) (w.heap.size+1+1) 0 _⟩
 |true=>
  simp only[if_true]at ze;subst ze;have hNK:=(Ak hok.symm qG).ext Zv.out.2;have HFK:=aW (qG.ext Zv.out.2);have hD2:=HB.out.2.1.ext Zv.out.1;obtain⟨y0,y1⟩:=hD2.cells;have x0:=bQ W2 w1.heap.size 0 _ _ _ hbk;simp only[gE]at x0;have hcb:qH t (p:Int)=true:=by simp[qH,HG.out.1,HG.out.2.1]
  have hcd:=MG t (p:Int) W2;rw[hcb]at hcd;have HCD:=aW hcd;have hno:=Jo (.slice aK Fr.length cK) Fr;have rq:=aW (λV (hV:Ext W2 V)=>hno V ((hNK.weaken (aU _)).ext hV) HC.out.1.1 hok.symm);have HNK:=Ap hNK hok.symm hbk hD2;clear hcb hcd hno hNK hok qG hbk hD2 HKK;go_upto_region 4 with(go_at_call 33;refine HCD.out.mono ?_;rintro e w3 ⟨rfl,hx3⟩)
  have x3:=fw hx3 x0;have P7:=aW hx3;clear x0 y0 y1 z1 z2 hx3;go_upto_region 5 with(go_at_call 20;refine(rq.out _ P7.out).mono ?_;rintro e w4 ⟨t4,p4,ok4,rfl,hx4,g,cg,eg,hn1,hn2⟩;rw[gM])
  have hxb:Ext w4 (w4.alloc (.cells #[.int .i64 t4,.int .i64 (p4:Int)] 34)):=by go_grown
  have hX5:=ah P7.out (ah hx4 hxb);have YR:=aW hX5;have hsame:Same g (bz Fr):=bE.fT cg HC.out.2.1 eg;clear hx4 hxb;generalize w4.alloc (.cells #[.int .i64 t4,.int .i64 (p4:Int)] 34)=W5 at *;have Gj:=ik hX5 HR2.out;have hb5:=ik hX5 HNK.out.2.2.1;have hD5:=HNK.out.2.2.2.ext hX5;have x5:=bQ W5 w1.heap.size 0 _ _ _ hb5;have z1:=bQ W5 (w.heap.size+1+1) 0 _ _ _ Gj;have z2:=gQ W5 (w.heap.size+1+1) 0 _ _ Gj;obtain⟨y0,y1⟩:=hD5.cells;simp only[gE]at x5;have HR5:=aW Gj;have ahI:=HNK.out.1.ext hX5;have HN5:=aW ahI;have HD5:=aW hD5;have Ng:=HB.out.1.size;have akJ:=bW HB.out.2.2;clear Gj hb5 hD5 hX5 ahI x3;cases ok4 with
  |true=>
   have hN0:N0 (bz Fr):=by
    obtain⟨k,hk,-,-⟩:=hn1 rfl;exact bE.lT.same _ _ hsame ⟨k,hk⟩
   have P8:=aW hN0;clear hn1 hn2 hN0;go_wp2
   refine mg (w.heap.size+1+1) 30 _ (gK _ (w.heap.size+1+1) 0 _ _ (.slice aK Fr.length cK) HR5.out) underlying30 ?_;exact⟨aK,Fr.length,cK,true,rfl,λ_=>⟨pq.2 (.inl P8.out),Fr,sl,rfl,Q7 HC.out.1.1 HC.out.2.1 P8.out,HNK.out.2.1,((HFK.out.ext YR.out).oP (dH (p:=⟨w.heap.size+1+1,0,none⟩)) (λb hb=>by subst hb;exact akJ)).lower Ng⟩,(λh=>by cases h),ll (ah HB.out.1 (ah Zv.out.1 YR.out)) (w.heap.size+1+1) 0 _⟩
  |false=>
   have hN0:¬N0 (bz Fr):=λk=>hn2 rfl (bE.lT.same _ _ (bE.dU hsame) k)
   have P8:=aW hN0;have hmf:∀(fn:Fn) (first cap:Array Value) (w:World),(Instr.makeFunc fn first cap).run prog w=.ok (.func fn first cap) w:=λ_ _ _ _=>rfl
   have hg2:dS (-t) p=true:=XZ HG.out.1;have hxd:Ext W5 W5.drew:=dQ ⟨1,rfl⟩;have hneg:=aW (λV=>Sv t p V (by have:=fe.1 HG.out.1;omega) (by have:=fe.1 HG.out.1;omega))
   have HSH:=aW (λV (hV:Ext W5 V)=>KO 35 #[.pointer (some ⟨w.heap.size+1,0,none⟩)] t p (.slice aK Fr.length cK) Fr V ((HN5.out.ext hV).weaken (aU _)) HC.out.1.1 HC.out.2.1 HNK.out.2.1 HG.out.1 hg2 HG.out.2.1 P8.out (λ_ _=>rfl)
    (λi vE E V' hi hVV hE1 hE2 mZ oK=>Tz ih vE E (w.heap.size+1) (vl Fr i) V' hE1 hE2 oK mZ (rf HC.out.1.1 HC.out.2.1 i (by omega)) (by have:=PR HC.out.1.1 hi;have:=HG.out.2.2;omega) ((HD5.out.ext hV).ext hVV)))
   clear hn1 hn2 hN0 hg2 z1 z2;rw[gM,gM]at HSH;go_upto_region 7 with fail
   refine oJ (λV=>V.cell? ⟨w1.heap.size,0,none⟩=some (.slice aK Fr.length cK)/\V.cell? ⟨w.heap.size+1,0,none⟩=some (.int .i64 t)/\V.cell? ⟨w.heap.size+1,1,none⟩=some (.int .i64 (p:Int))) [8,9] R6 ⟨x5,y0,y1⟩ (λaj ae=>?_);(refine bP 0 aj ae ?_;refine bP 1 aj ae ?_;refine bP 2 aj ae ?_;refine bP 3 aj ae ?_);(refine jv aj (i:=4) λK hK=>?_;go_simp);refine(hneg.out _).mono ?_;rintro e w6 ⟨rfl,hx6⟩;have Zu:Hid (Ext W5 w6):=aW (ah hxd hx6);(refine hK.out _ _ (λ_=>?_) ?_)
   .exact⟨fw Zu.out x5,fw Zu.out y0,fw Zu.out y1⟩
   clear hK K;(try simp only[nP]);(refine jv aj (i:=5) λK hK=>?_;go_simp);refine(HSH.out _ Zu.out).mono ?_;rintro e w7 ⟨a7,n7,c7,ok7,rfl,h1,h2,hx7⟩;have LP:=ah Zu.out hx7;have ae:=And.intro (fw LP x5) (And.intro (fw LP y0) (fw LP y1));(refine hK.out _ _ (λ_=>?_) ?_)
   .exact ae
   clear hK K;(try simp only[nP]);have Q5:=ik LP HR5.out;have z1:=bQ w7 (w.heap.size+1+1) 0 _ _ _ Q5;have z2:=gQ w7 (w.heap.size+1+1) 0 _ _ Q5;have HR7:=aW Q5;have H12:=nY h1 h2 LP;have HZ6:=aW (bW (ik Zu.out HR5.out));clear h1 h2 LP Q5 hx7;(refine bP 6 aj ae ?_;refine bP 7 aj ae ?_);refine nQ aj [8,9] [_,_] ?_;clear aj ae x5 y0 y1;go_wp2
   refine mg (w.heap.size+1+1) 30 _ (gK _ (w.heap.size+1+1) 0 _ _ (.slice a7 n7 c7) HR7.out) underlying30 ?_;obtain⟨h1,h2,LP⟩:=H12.out;have hz6:=HZ6.out;refine⟨a7,n7,c7,ok7,rfl,λh=>?_,h2,ll (ah HB.out.1 (ah Zv.out.1 (ah YR.out LP))) (w.heap.size+1+1) 0 _⟩;obtain⟨k1,E',sl',e1,k2,k3,k4⟩:=h1 h;exact⟨k1,E',sl',e1,k2,k3,(k4.oP (dH (p:=⟨w.heap.size+1+1,0,none⟩)) (λb hb=>by subst hb;exact hz6)).lower (by omega)⟩
theorem aaG(hg:dS t p=true)(ht:0<=t):∀n,J5 t p n:=by
 intro n
 induction n with
 |zero=>intro v F C w _ _ _ _ h;omega
 |succ n ih=>exact Tw hg ht ih
end
section
open Go.RowKit
open bE (dh Nd Gm vl Same bI bz Canon N0)
def xB(Z:List ru)(t p:Int):Prop:=(nO Z/\qH t p=true)/\∃C,fA C (bz (kU Z))/\rQ (gP t p.toNat) (bz C)
def Um(Z:List ru)(t p:Int)(E:dh):Prop:=∃C,fA C (bz (kU Z))/\Ga (gP t p.toNat) (bz C) E
theorem Um.unique{Z:List ru}{t p:Int}{E E':dh}(h:Um Z t p E)(k:Um Z t p E'):E=E':=by
 obtain⟨C,h1,h2⟩:=h;obtain⟨C',k1,k2⟩:=k;have e:=fA.unique h1 k1;subst e;exact fA.unique h2 k2
def T9(Z:List ru)(t p:Int)(w:World)(e:Ending)(w':World):Prop:=
 ∃(a:Option Addr) (n c:Nat) (ok:Bool),e=.returned (.tuple #[.agg #[.slice a n c],.bool ok])/\(ok=true->xB Z t p/\∃E,n=E.length/\Um Z t p E/\dm E=true/\oN (λb=>w.heap.size<=b/\b<w'.heap.size) (λV=>dI V 0 (.slice a n c) E) w')/\(ok=false->¬xB Z t p/\n=0)/\Ext w w'
theorem LD(v:Value)(Z:List ru)(t p:Int)(w:World)(hz:kH w v Z):
 Calls prog 28 #[.agg #[v],.agg #[.int .i64 t,.int .i64 p]] w (yI (nO Z/\qH t p=true) w):=by
 obtain⟨a,c,rfl⟩:=hz.slice;obtain⟨W,hW,hx,b0,b1,-⟩:=MV w (.cells #[.slice a (List.length Z) c] 30) (.cells #[.int .i64 t,.int .i64 p] 34);have c0:=bQ W w.heap.size 0 _ _ _ b0;have c1:=bQ W (w.heap.size+1) 0 _ _ _ b1;have c2:=bQ W (w.heap.size+1) 1 _ _ _ b1;simp only[gE]at c0 c1 c2;have HG:=aW (Dg _ Z W (hz.ext hx));have HX:=aW hx;clear hz b0 b1 hx;by_cases hg:nO Z
 .have HGZ:=aW hg
  clear hg;cases gd:dS t p with
  |false=>
   have HN:Hid (¬(nO Z/\qH t p=true)):=aW λk=>by have:=k.2;unfold qH at this;rw[gd]at this;cases this
   go_enter Tryz.func28,Tryz.ntmps28
   go_upto_region 1 with fail
   rw[<-hW];clear hW
   go_wp2_with (first
    |(go_at_call 66;refine(tN _ _ _).mono ?_;rintro e w2 ⟨he,hx2⟩;rw[gd]at he;subst he)
    |(go_at_call 65;refine HG.out.mono ?_;rintro e w1 ⟨bb,rfl,hbb,hx1⟩;obtain rfl:bb=true:=hbb.2 HGZ.out;clear hbb;have d1:=fw hx1 c1;have d2:=fw hx1 c2))
   go_ret
   exact⟨false,rfl,⟨λh=>(by cases h),λh=>absurd h HN.out⟩,ah HX.out (ah hx1 hx2)⟩
  |true=>
   have HI:Hid ((nO Z/\qH t p=true)↔0<=t):=aW ⟨λk=>by have:=k.2;unfold qH at this;rw[gd]at this;simpa using this,λk=>⟨HGZ.out,by unfold qH;rw[gd];simpa using k⟩⟩;go_enter Tryz.func28,Tryz.ntmps28
   go_upto_region 1 with fail
   rw[<-hW];clear hW
   go_wp2_with (first
    |(go_at_call 66;refine(tN _ _ _).mono ?_;rintro e w2 ⟨he,hx2⟩;rw[gd]at he;subst he;have e1:=fw hx2 d1)
    |(go_at_call 65;refine HG.out.mono ?_;rintro e w1 ⟨bb,rfl,hbb,hx1⟩;obtain rfl:bb=true:=hbb.2 HGZ.out;clear hbb;have d1:=fw hx1 c1;have d2:=fw hx1 c2))
   go_ret
   exact⟨decide (0<=t),rfl,by rw[HI.out,decide_eq_true_eq],ah HX.out (ah hx1 hx2)⟩
 .have HN:Hid (¬(nO Z/\qH t p=true)):=aW λk=>hg k.1
  have HGN:=aW hg;clear hg;go_enter Tryz.func28,Tryz.ntmps28
  go_upto_region 1 with fail
  rw[<-hW];clear hW;go_wp2_with (go_at_call 65;refine HG.out.mono ?_;rintro e w1 ⟨bb,rfl,hbb,hx1⟩;obtain rfl:bb=false:=iT.2 (λq=>HGN.out (hbb.1 q));clear hbb)
  go_ret
  exact⟨false,rfl,⟨λh=>(by cases h),λh=>absurd h HN.out⟩,ah HX.out hx1⟩
def ZM:List Row:=[⟨0,[],12,[2]⟩,⟨1,[0],13,[11]⟩,⟨2,[],14,[3]⟩,⟨3,[1,2,1],15,[12,13]⟩,⟨4,[3],16,[14]⟩,⟨5,[3],17,[14]⟩,⟨6,[4,3,0,1,2,3,4,5],0,[4,15]⟩,⟨7,[5,6,0,1,2,3,4,5,6],6,[16]⟩]
theorem I6(v:Value)(Z:List ru)(t p:Int)(w:World)(hz:kH w v Z):
 Calls prog 6 #[.agg #[v],.agg #[.int .i64 t,.int .i64 p]] w (T9 Z t p w):=by
 obtain⟨a,c,rfl⟩:=hz.slice;obtain⟨W,hW,hx,b0,b1,b2,Ng⟩:=Zt w (.cells #[.slice a (List.length Z) c] 30) (.cells #[.int .i64 t,.int .i64 p] 34) (.cells #[.slice none 0 0] 30);have c0:=bQ W w.heap.size 0 _ _ _ b0;have c1:=bQ W (w.heap.size+1) 0 _ _ _ b1;have c2:=bQ W (w.heap.size+1) 1 _ _ _ b1;simp only[gE]at c0 c1 c2;have HCO:=aW (LD _ Z t p W (hz.ext hx));have HX:=nY hx b2 Ng;have HZ:=aW (hz.ext hx);clear hz b0 b1 b2 hx Ng;by_cases hc:nO Z/\qH t p=true
 .have HCC:=aW hc
  have hgd:dS t p=true/\0<=t:=by have:=hc.2;unfold qH at this;simpa using this
  obtain⟨q,rfl⟩:∃q:Nat,p=(q:Int):=⟨p.toNat,by have:=fe.1 hgd.1;omega⟩;have HGD:=aW hgd;have hF:dI W 0 (.slice a (List.length Z) c) (kU Z):=HZ.out.nodes (xA hc.1.2.1);have iF:bI (kU Z):=hc.1.2.2;have fF:dm (kU Z)=true:=by rw[<-zl];exact hc.1.1
  have lF:(kU Z).length<=120:=(of_decide_eq_true fF).2.1;have HF:=nY iF fF lF;have Qe:=aW (λV (hV:Ext W V)=>uC _ (kU Z) V (hF.ext hV) iF.good (fV.2 iF.ne) (by omega));clear hc hgd hF iF fF lF;go_enter Tryz.func6,Tryz.ntmps6
  go_upto_region 1 with fail
  rw[<-hW];clear hW;go_upto_region 3 with(go_at_call 28;refine HCO.out.mono ?_;rintro e w1 ⟨bb,rfl,hbb,hx1⟩;obtain rfl:bb=true:=hbb.2 HCC.out;clear hbb)
  have OC:=ah hx1 (dQ ⟨1,rfl⟩:Ext w1 w1.drew);have ae:(λV:World=>V.cell? ⟨w.heap.size,0,none⟩=some (.slice a (List.length Z) c)/\V.cell? ⟨w.heap.size+1,0,none⟩=some (.int .i64 t)/\V.cell? ⟨w.heap.size+1,1,none⟩=some (.int .i64 (q:Int))) w1.drew:=⟨fw OC c0,fw OC c1,fw OC c2⟩;have HSX:Hid (∀V,Ext W V->V.cell? ⟨w.heap.size,0,none⟩=some (.slice a (List.length Z) c)/\V.cell? ⟨w.heap.size+1,0,none⟩=some (.int .i64 t)/\V.cell? ⟨w.heap.size+1,1,none⟩=some (.int .i64 (q:Int))):=aW λV hV=>⟨fw hV c0,fw hV c1,fw hV c2⟩
  refine oJ (λV:World=>V.cell? ⟨w.heap.size,0,none⟩=some (.slice a (List.length Z) c)/\V.cell? ⟨w.heap.size+1,0,none⟩=some (.int .i64 t)/\V.cell? ⟨w.heap.size+1,1,none⟩=some (.int .i64 (q:Int))) [6,7] ZM ae (λaj ae=>?_);obtain⟨U,hU⟩:=fu w1.drew;rw[<-hU]at ae OC ⊢;clear hU c0 c1 c2;(refine bP 0 aj ae ?_;refine bP 2 aj ae ?_);(refine jv aj (i:=1) λK hK=>?_;go_simp);refine(Qe.out _ OC).mono ?_;rintro e w2 ⟨vC,C,g,rfl,Kh,iC,sC,cC,eC,lC,hx2⟩;obtain⟨aC,Ej,rfl⟩:=Kh.slice;have aan:=ah OC hx2;have ae:=HSX.out _ aan;refine hK.out _ _ (λ_=>ae) ?_;clear hK K;(try simp only[nP]);have qG:fA C (bz (kU Z)):=⟨iC,g,sC,cC,eC⟩;have aip:Canon (bz C):=bE.lQ (bE.dU sC) cC;have hal:=Oq _ C t q w2 (Kh.weaken (aU _)) iC aip (by have:=HF.out.2.2;omega) HGD.out.1 HGD.out.2;rw[gM]at hal;have zw:=aW hal;have YZ:=aW qG;clear qG aip hal Kh iC sC cC eC lC;(refine jv aj (i:=3) λK hK=>?_;go_simp);refine zw.out.mono ?_;rintro e w3 ⟨a3,n3,c3,ok3,rfl,hy,hn,hx3⟩;have Cy:=ah aan hx3;have ae:=HSX.out _ Cy;refine hK.out _ _ (λ_=>ae) ?_;clear hK K;(try simp only[nP]);(refine bP 4 aj ae ?_;refine bP 5 aj ae ?_);have r3:=ik Cy HX.out.2.1;have z1:=bQ w3 (w.heap.size+1+1) 0 _ _ _ r3;have z2:=gQ w3 (w.heap.size+1+1) 0 _ _ r3;have H3:=Ap hy hn r3 Cy;have HZ2:=jm aan hx3;clear hy hn r3 Cy aan hx3 OC hx2 hx1;refine nQ aj [6,7] [_,_] ?_;clear aj ae;go_wp2
  refine mg (w.heap.size+1+1) 30 #[.slice a3 n3 c3] (gK _ (w.heap.size+1+1) 0 _ _ (.slice a3 n3 c3) H3.out.2.2.1) underlying30 ?_;obtain⟨hy,hn,r3,Cy⟩:=H3.out;refine⟨a3,n3,c3,ok3,rfl,λh=>?_,λh=>⟨λk=>?_,(hn h).2⟩,ll (ah HX.out.1 Cy) (w.heap.size+1+1) 0 _⟩
  .obtain⟨k1,E,k2,k3,k4,k5⟩:=hy h
   exact⟨⟨HCC.out,C,YZ.out,by simpa using k1⟩,E,k2,⟨C,YZ.out,by simpa using k3⟩,k4,(k5.keep (dH (p:=⟨w.heap.size+1+1,0,none⟩) (v:=.slice a3 n3 c3)) (λb hb (q:b=w.heap.size+1+1)=>by have h1:=hb.1;have h2:=HZ2.out.1.size;have h3:=HX.out.2.2;omega)).mono (λb hb=>⟨by have h1:=hb.1;have h2:=HZ2.out.1.size;have h3:=HX.out.2.2;omega,by rw[World.size_setCell];exact hb.2⟩) (λb hb=>hb.2) (λ_ h=>h)⟩
  .obtain⟨_,C',k1,k2⟩:=k
   have e:=fA.unique k1 YZ.out;subst e;exact(hn h).1 (by simpa using k2)
 .have HN:Hid (¬xB Z t p):=aW λk=>hc k.1
  have Qe:=aW hc;clear hc;go_enter Tryz.func6,Tryz.ntmps6
  go_upto_region 1 with fail
  rw[<-hW];clear hW
  go_wp2_with (go_at_call 28;refine HCO.out.mono ?_;rintro e w1 ⟨bb,rfl,hbb,hx1⟩;obtain rfl:bb=false:=iT.2 (λq=>Qe.out (hbb.1 q))
               have r3:=ik hx1 HX.out.2.1;have z1:=bQ w1 (w.heap.size+1+1) 0 _ _ _ r3;have z2:=gQ w1 (w.heap.size+1+1) 0 _ _ r3;have H3:=jm r3 hx1;clear hbb r3 hx1)
  refine mg (w.heap.size+1+1) 30 #[.slice none 0 0] (gK _ (w.heap.size+1+1) 0 _ _ (.slice none 0 0) H3.out.1) underlying30 ?_;exact⟨none,0,0,false,rfl,(λh=>by cases h),λ_=>⟨HN.out,rfl⟩,ll (ah HX.out.1 H3.out.2) (w.heap.size+1+1) 0 _⟩
end
section
open Go.RowKit
open bE (dh Nd Gm vl Same bI bz Canon N0)
def Ul(Z:List ru)(t p:Int)(w:World)(e:Ending)(w':World):Prop:=
 ∃(a:Option Addr) (n c:Nat) (ok:Bool),e=.returned (.tuple #[.agg #[.slice a n c],.bool ok])/\(ok=true->xB Z t p/\∃E sl,n=E.length/\Um Z t p E/\dm E=true/\FO w' w.heap.size (.slice a n c) E.length sl (mV E))/\(ok=false->¬xB Z t p/\a=none/\n=0/\c=0)/\Ext w w'
def P6(w:World)(e:Ending)(w':World):Prop:=e=.returned (.tuple #[.agg #[.slice none 0 0],.bool false])/\Ext w w'
theorem PM(v:Value)(Z:List ru)(w:World)(hz:kH w v Z)(hn:¬nO Z):Calls prog 32 #[.agg #[v]] w (P6 w):=by
 obtain⟨a,c,rfl⟩:=hz.slice;obtain⟨W,hW,hx,b0,b1,Ng⟩:=MV w (.cells #[.slice a (List.length Z) c] 30) (.cells #[.slice none 0 0] 30);have c0:=bQ W w.heap.size 0 _ _ _ b0;simp only[gE]at c0;have HG:=aW (zK _ Z W (hz.ext hx));have HX:=jm hx b1;have HN:=aW hn;clear hz b0 b1 hx hn;go_enter Tryz.func32,Tryz.ntmps32
 go_upto_region 1 with fail
 rw[<-hW];clear hW
 go_wp2_with (go_at_call 54;refine HG.out.mono ?_;rintro e w1 ⟨bb,rfl,hbb,hx1⟩;obtain rfl:bb=false:=iT.2 (λq=>HN.out (hbb.1 q))
              have r3:=ik hx1 HX.out.2;have z1:=bQ w1 (w.heap.size+1) 0 _ _ _ r3;have z2:=gQ w1 (w.heap.size+1) 0 _ _ r3;have H3:=jm r3 hx1;clear hbb r3 hx1)
 refine mg (w.heap.size+1) 30 #[.slice none 0 0] (gK _ (w.heap.size+1) 0 _ _ (.slice none 0 0) H3.out.1) underlying30 ?_;exact⟨rfl,ll (ah HX.out.1 H3.out.2) (w.heap.size+1) 0 _⟩
theorem Xt(v:Value)(Z:List ru)(t p:Int)(w:World)(hz:kH w v Z)(hn:¬nO Z):
 Calls prog 9 #[.agg #[v],.agg #[.int .i64 t,.int .i64 p]] w (P6 w):=by
 obtain⟨a,c,rfl⟩:=hz.slice;obtain⟨W,hW,hx,b0,b1,b2,Ng⟩:=Zt w (.cells #[.slice a (List.length Z) c] 30) (.cells #[.int .i64 t,.int .i64 p] 34) (.cells #[.slice none 0 0] 30);have c0:=bQ W w.heap.size 0 _ _ _ b0;simp only[gE]at c0;have HC:=aW (PM _ Z W (hz.ext hx) hn);have HX:=jm hx b2;clear hz b0 b1 b2 hx hn;go_enter Tryz.func9,Tryz.ntmps9
 go_upto_region 1 with fail
 rw[<-hW];clear hW;go_upto_region 2 with(go_at_call 32;refine HC.out.mono ?_;rintro e w1 ⟨rfl,hx1⟩)
 have hx2:Ext w1 (w1.alloc (.cells #[.slice none 0 0] 30)):=by go_grown
 have zx:=ah hx1 hx2;have r3:=ik zx HX.out.2;generalize w1.alloc (.cells #[.slice none 0 0] 30)=W2 at *;have z1:=bQ W2 (w.heap.size+1+1) 0 _ _ _ r3;have z2:=gQ W2 (w.heap.size+1+1) 0 _ _ r3;have H3:=jm r3 zx;clear r3 zx hx2 hx1;go_wp2
 refine mg (w.heap.size+1+1) 30 #[.slice none 0 0] (gK _ (w.heap.size+1+1) 0 _ _ (.slice none 0 0) H3.out.1) underlying30 ?_;exact⟨rfl,ll (ah HX.out.1 H3.out.2) (w.heap.size+1+1) 0 _⟩
theorem O6(v:Value)(F:dh)(t p:Int)(w:World)(hf:dI w 0 v F)(hF:bI F)(fF:dm F=true)(hn:qH t p=false):
 Calls prog 9 #[.agg #[v],.agg #[.int .i64 t,.int .i64 p]] w (P6 w):=by
 obtain⟨a,c,rfl⟩:=hf.slice;obtain⟨W,hW,hx,b0,b1,b2,Ng⟩:=Zt w (.cells #[.slice a (List.length F) c] 30) (.cells #[.int .i64 t,.int .i64 p] 34) (.cells #[.slice none 0 0] 30);have c0:=bQ W w.heap.size 0 _ _ _ b0;simp only[gE]at c0;have HC:=aW (pW _ F W (hf.ext hx) hF fF);have HX:=nY hx b1 b2;have hcd:=λW=>MG t p W
 rw[hn]at hcd;have HCD:=aW hcd;clear hf b0 b1 b2 hx hn hF fF hcd;go_enter Tryz.func9,Tryz.ntmps9
 go_upto_region 1 with fail
 rw[<-hW];clear hW;go_upto_region 2 with(go_at_call 32;refine HC.out.mono ?_;rintro e w1 ⟨K,vK,Fr,okK,sl,rfl,-,-,-,qG,hx1⟩;obtain⟨aK,cK,rfl⟩:=qG.top;clear qG)
 have hx2:Ext w1 (w1.alloc (.cells #[.slice aK Fr.length cK] 30)):=by go_grown
 have zx:=ah hx1 hx2;have r3:=ik zx HX.out.2.2;have rt:=ik zx HX.out.2.1;generalize w1.alloc (.cells #[.slice aK Fr.length cK] 30)=W2 at *;cases okK with
 |false=>
  have z1:=bQ W2 (w.heap.size+1+1) 0 _ _ _ r3;have z2:=gQ W2 (w.heap.size+1+1) 0 _ _ r3;have H3:=jm r3 zx;clear r3 rt zx hx2 hx1;go_wp2
  refine mg (w.heap.size+1+1) 30 #[.slice none 0 0] (gK _ (w.heap.size+1+1) 0 _ _ (.slice none 0 0) H3.out.1) underlying30 ?_;exact⟨rfl,ll (ah HX.out.1 H3.out.2) (w.heap.size+1+1) 0 _⟩
 |true=>
  have y0:=bQ W2 (w.heap.size+1) 0 _ _ _ rt;have y1:=bQ W2 (w.heap.size+1) 1 _ _ _ rt;simp only[gE]at y0 y1;have HE:=jm r3 zx;clear r3 rt zx hx2 hx1
  go_wp2_with (go_at_call 33;refine(HCD.out W2).mono ?_;rintro e w3 ⟨rfl,hx3⟩
               have r3:=ik hx3 HE.out.1;have z1:=bQ w3 (w.heap.size+1+1) 0 _ _ _ r3;have z2:=gQ w3 (w.heap.size+1+1) 0 _ _ r3;have H3:=jm r3 (ah HE.out.2 hx3);clear r3 hx3)
  refine mg (w.heap.size+1+1) 30 #[.slice none 0 0] (gK _ (w.heap.size+1+1) 0 _ _ (.slice none 0 0) H3.out.1) underlying30 ?_;exact⟨rfl,ll (ah HX.out.1 H3.out.2) (w.heap.size+1+1) 0 _⟩
theorem O5(v:Value)(F:dh)(t p:Int)(w:World)(Q:Ending->World->Prop)(hf:dI w 0 v F)(hF:bI F)(fF:dm F=true)(hn:¬ ∃C,fA C (bz F)):
 Calls prog 9 #[.agg #[v],.agg #[.int .i64 t,.int .i64 p]] w Q:=by
 obtain⟨a,c,rfl⟩:=hf.slice;obtain⟨W,hW,hx,b0,b1,b2,Ng⟩:=Zt w (.cells #[.slice a (List.length F) c] 30) (.cells #[.int .i64 t,.int .i64 p] 34) (.cells #[.slice none 0 0] 30);have c0:=bQ W w.heap.size 0 _ _ _ b0;simp only[gE]at c0;have HC:=aW (pW _ F W (hf.ext hx) hF fF);have HN:=aW hn;clear hf b0 b1 b2 hx hn hF fF;go_enter Tryz.func9,Tryz.ntmps9
 go_upto_region 1 with fail
 rw[<-hW];clear hW;go_upto_region 2 with(go_at_call 32;refine HC.out.mono ?_;rintro e w1 ⟨K,vK,Fr,okK,sl,rfl,hK,-⟩;exact absurd ⟨K,hK⟩ HN.out)
theorem Ty(v:Value)(Z:List ru)(t p:Int)(w:World)(hz:kH w v Z):
 Calls prog 9 #[.agg #[v],.agg #[.int .i64 t,.int .i64 p]] w (Ul Z t p w):=by
 by_cases hg:nO Z
 .have hF:dI w 0 v (kU Z):=hz.nodes (xA hg.2.1)
  have fF:dm (kU Z)=true:=by rw[<-zl];exact hg.1
  cases hc:qH t p with
  |false=>
   refine(O6 v (kU Z) t p w hF hg.2.2 fF hc).mono ?_;rintro e w' ⟨rfl,hx⟩;exact⟨none,0,0,false,rfl,(λh=>by cases h),λ_=>⟨λk=>(by have:=k.1.2;rw[hc]at this;cases this),rfl,rfl,rfl⟩,hx⟩
  |true=>
   have hgd:dS t p=true/\0<=t:=(by unfold qH at hc;simpa using hc);obtain⟨q,rfl⟩:∃q:Nat,p=(q:Int):=⟨p.toNat,by have:=fe.1 hgd.1;omega⟩;by_cases hex:∃C,fA C (bz (kU Z))
   case neg=>exact O5 v (kU Z) t q w _ hF hg.2.2 fF hex
   obtain⟨C,hC⟩:=hex;have h:=aaG hgd.1 hgd.2 (bE.born (bz C)+1) v (kU Z) C w hF hg.2.2 fF hC (mO _);rw[gM]at h;refine h.mono ?_;rintro e w' ⟨a,n,c,ok,rfl,h1,h2,hx⟩;refine⟨a,n,c,ok,rfl,λk=>?_,λk=>⟨λq'=>?_,(h2 k).2⟩,hx⟩
   .obtain⟨k1,E,sl,k2,k3,k4,k5⟩:=h1 k
    exact⟨⟨⟨hg,hc⟩,C,hC,by simpa using k1⟩,E,sl,k2,⟨C,hC,by simpa using k3⟩,k4,k5⟩
   .obtain⟨_,C',k1,k2⟩:=q'
    have e:=fA.unique k1 hC;subst e;exact(h2 k).1 (by simpa using k2)
 .refine(Xt v Z t p w hz hg).mono ?_
  rintro e w' ⟨rfl,hx⟩;exact⟨none,0,0,false,rfl,(λh=>by cases h),λ_=>⟨λk=>hg k.1.1,rfl,rfl,rfl⟩,hx⟩
end
section
open Go.RowKit
open bE (dh Nd Gm vl Same bI bz Canon N0)
variable {n:Nat} {ls:Nat->List Int}
theorem FO.sup{w:World}{B:Nat}{v:Value}{sl:Nat->Value}(h:FO w B v n sl ls):oN (λb=>B<=b/\b<w.heap.size) (λV=>FO V B v n sl ls) w:=by
 refine⟨λb hb=>hb.2,λV hV=>?_⟩;have key:∀{e size m:Nat} {u:Value} {xs:List Value},w.ownsRow B e size u m xs->V.ownsRow B e size u m xs:=λ{e size m u xs} k=>by
  have hlt:=k.lt;obtain⟨hl,k⟩:=k;refine⟨hl,?_⟩;rcases k with k|⟨g,cap,cur,rfl,hb,hg,h1⟩
  .exact .inl k
  .exact .inr ⟨g,cap,cur,rfl,hb,by rw[hV g (hlt g rfl)];exact hg,h1⟩
 obtain⟨xs,h1,h2⟩:=h.row;exact⟨⟨xs,key h1,h2⟩,λj hj=>key (h.own j hj),h.ap,h.Zr⟩
def GX(Z:List ru)(t p:Int)(E:dh)(ok:Bool):Prop:=(ok=true/\xB Z t p/\Um Z t p E/\dm E=true)\/(ok=false/\¬xB Z t p/\E=[])
theorem GX.unique{Z:List ru}{t p:Int}{E E':dh}{ok ok':Bool}(h:GX Z t p E ok)(k:GX Z t p E' ok'):E=E'/\ok=ok':=by
 rcases h with⟨rfl,h1,h2,_⟩|⟨rfl,h1,rfl⟩ <;> rcases k with⟨rfl,k1,k2,_⟩|⟨rfl,k1,rfl⟩
 .exact⟨h2.unique k2,rfl⟩
 .exact absurd h1 k1
 .exact absurd k1 h1
 .exact⟨rfl,rfl⟩
theorem GX.small{Z:List ru}{t p:Int}{E:dh}{ok:Bool}(h:GX Z t p E ok):E.length<=120/\∀j,j<2*E.length->(mV E j).length<=24:=by
 rcases h with⟨_,_,_,hf⟩|⟨_,_,rfl⟩
 .unfold dm at hf
  obtain⟨_,f2,f3⟩:=of_decide_eq_true hf;refine⟨f2,λj hj=>?_⟩;have hi:j / 2<E.length:=by omega
  have g:E.getD (j / 2) ([],[])=E[j / 2]:=by rw[bD,af hi];rfl
  unfold mV;split
  .rw[bG,g];exact(f3 _ hi).1
  .rw[bG,g];exact(f3 _ hi).2
 .simp
def TZ(Z:List ru)(t p:Int)(w:World)(e:Ending)(w':World):Prop:=
 ∃(a:Option Addr) (c:Nat) (E:dh) (ok:Bool),e=.returned (.tuple #[.agg #[.slice a E.length c],.bool ok])/\GX Z t p E ok/\oN (λb=>w.heap.size<=b/\b<w'.heap.size) (λV=>dI V 0 (.slice a E.length c) E) w'/\Ext w w'
def Uk(Z:List ru)(t p:Int)(w:World)(e:Ending)(w':World):Prop:=
 ∃(a:Option Addr) (c:Nat) (E:dh) (ok:Bool) (sl:Nat->Value),e=.returned (.tuple #[.agg #[.slice a E.length c],.bool ok])/\GX Z t p E ok/\FO w' w.heap.size (.slice a E.length c) E.length sl (mV E)/\Ext w w'
theorem RU(v:Value)(Z:List ru)(t p:Int)(w:World)(hz:kH w v Z):Calls prog 6 #[.agg #[v],.agg #[.int .i64 t,.int .i64 p]] w (TZ Z t p w):=by
 refine(I6 v Z t p w hz).mono ?_;rintro e w' ⟨a,n,c,ok,rfl,h1,h2,hx⟩;cases ok with
 |true=>
  obtain⟨k1,E,rfl,k2,k3,k4⟩:=h1 rfl;exact⟨a,c,E,true,rfl,.inl ⟨rfl,k1,k2,k3⟩,k4,hx⟩
 |false=>
  obtain⟨k1,rfl⟩:=h2 rfl;exact⟨a,c,[],false,rfl,.inr ⟨rfl,k1,rfl⟩,⟨λb hb=>hb.2,λV _=>⟨a,c,rfl,aU _,by simp[maxLen],λh=>absurd h (by simp)⟩⟩,hx⟩
theorem Iw(v:Value)(Z:List ru)(t p:Int)(w:World)(hz:kH w v Z):Calls prog 9 #[.agg #[v],.agg #[.int .i64 t,.int .i64 p]] w (Uk Z t p w):=by
 refine(Ty v Z t p w hz).mono ?_;rintro e w' ⟨a,n,c,ok,rfl,h1,h2,hx⟩;cases ok with
 |true=>
  obtain⟨k1,E,sl,rfl,k2,k3,k4⟩:=h1 rfl;exact⟨a,c,E,true,sl,rfl,.inl ⟨rfl,k1,k2,k3⟩,k4,hx⟩
 |false=>
  obtain⟨k1,rfl,rfl,rfl⟩:=h2 rfl;exact⟨none,0,[],false,λ_=>undef,rfl,.inr ⟨rfl,k1,rfl⟩,FO.none _ _ _ _,hx⟩
theorem ail(F:List ru){k:Nat}(h:k<=F.length):iJ (Ob F) (2*k)=1+zU (F.take k):=by
 induction k with
 |zero=>simp[iJ,zU]
 |succ k ih=>
  rw[Hd h,show 2*(k+1)=2*k+1+1 by omega,iJ,iJ,ih (by omega)];obtain⟨e0,e1⟩:=Oa (F:=F) (i:=k) h;rw[e0,e1];omega
theorem TN(h:∀j,j<n->(ls j).length<=24):iJ ls n<=1+24*n:=by
 induction n with
 |zero=>simp[iJ]
 |succ n ih=>
  have:=ih λj hj=>h j (by omega)
  have:=h n (by omega);rw[iJ];omega
theorem ZF{F:List ru}:∀nd,nd∈F->nd.1.length+nd.2.length<=zU F:=by
 induction F with
 |nil=>intro nd h;cases h
 |cons a F ih=>
  intro nd h;have e:zU (a :: F)=(a.1.length+a.2.length)+zU F:=by simp[zU]
  rcases jk.1 h with rfl|h
  .omega
  .have:=ih nd h;omega
end
