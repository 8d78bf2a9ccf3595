/-
  Contract of the program's game, over any texts that tell games: the canonical game of what a text tells.
-/
import Derived.Test.YteknjeohbcgpdaaGreatDoorK41
set_option maxRecDepth 100000
namespace Go.Proofs.YteknjeohbcgpdaaGreatDoor
open Tryz
open Go.RowKit
open bz (dC Nd vl Gm Canon iK)
variable {n j i m:Nat} {V:Sv} {D E:dC} {ss:List ByteArray} {l l1 l0:List Nat} {fk Kl Hm Ho:Value->Option Value} {x g:Gm} {sb:ByteArray}
theorem BA{w w':World}{B e sz:Nat}{v:Value}{xs:List Value}(h:w.ownsRow B e sz v n xs)(hb:∀b,v.ownBlock=some b->w'.heap[b]?=w.heap[b]?):w'.ownsRow B e sz v n xs:=by
 obtain⟨hl,h2⟩:=h;refine⟨hl,?_⟩;rcases h2 with h2|⟨g,cap,cur,e1,hB,hg,rest⟩
 .exact .inl h2
 .exact .inr ⟨g,cap,cur,e1,hB,(hb g (by rw[e1];rfl)).trans hg,rest⟩
theorem Qw(w:World):(zeroValue 3).run prog w=.ok (.int .i64 0) w:=El w
def vv(V:Sv)(w0:World)(pp h kb:Nat)(s:iQ)(fk:Value->Option Value)(n:Nat)(g:Gm)(w:World)(e:Ending)(w':World):Prop:=
 ∃s' Ho i,e=.returned (.int .i64 ((i:Nat):Int))/\DD V 0 w0 w' pp h kb s' Ho/\rY pp h kb s w s' w'/\tV V (n+1) fk Ho/\i<s'.D.length/\Canon (vl s'.D i)/\iK (vl s'.D i) g
def MO(V:Sv)(N:Nat):Prop:=∀(w0:World) (pp h kb:Nat) (s:iQ) (fk:Value->Option Value) (n:Nat) (g:Gm) (sb:ByteArray) (w:World),n<N->V.T n g sb->DD V 0 w0 w pp h kb s fk->V.G w0->
 Calls prog 86 #[.agg #[.pointer (some ⟨pp,0,none⟩),.map (some kb),.func (.func V.fn) #[] V.env],.string sb] w (vv V w0 pp h kb s fk n g w)
structure Done(V:Sv)(D:dC)(n:Nat)(g:Gm)(l0 l1:List Nat)(k:Nat)(fk Ho:Value->Option Value):Prop where
 k0:1<=k->Side V D n g.l l0
 z0:k<1->l0=[]
 k1:2<=k->Side V D n g.r l1
 z1:k<2->l1=[]
 new:tV V n fk Ho
structure Be(V:Sv)(D:dC)(ss:List ByteArray)(l:List Nat)(j:Nat)(l1:List Nat)(fk Ho:Value->Option Value){n:Nat}:Prop where
 kid:MJ V D ss l
 len:l.length=j
 z1:l1=[]
 new:tV V n fk Ho
structure Bc(V:Sv)(D:dC)(n:Nat)(g:Gm)(ss:List ByteArray)(l:List Nat)(j:Nat)(l0:List Nat)(fk Ho:Value->Option Value):Prop where
 kid:MJ V D ss l
 len:l.length=j
 k0:Side V D n g.l l0
 new:tV V n fk Ho
theorem Be.put(hV:V.Ok)(h:Be V D ss l j l1 fk Kl (n:=n))(g:bz.WF D)(g':bz.WF (D++E))
 (he:ss[j]?=some sb) (hT:V.T m x sb) (hm:m<n) (hi:i<(D++E).length) (hv:iK (vl (D++E) i) x) (hN:tV V (m+1) Kl Hm):Be V (D++E) ss (l++[i]) (j+1) l1 fk Hm (n:=n):=
 ⟨(h.kid.more g g').add hV (by rw[h.len];exact he) hT hi hv,by simp[h.len],h.z1,h.new.trans hN (by omega)⟩
theorem Bc.put(hV:V.Ok){q:Gm}(h:Bc V D n q ss l j l0 fk Kl)(g:bz.WF D)(g':bz.WF (D++E))
 (he:ss[j]?=some sb) (hT:V.T m x sb) (hm:m<n) (hi:i<(D++E).length) (hv:iK (vl (D++E) i) x) (hN:tV V (m+1) Kl Hm):Bc V (D++E) n q ss (l++[i]) (j+1) l0 fk Hm:=
 ⟨(h.kid.more g g').add hV (by rw[h.len];exact he) hT hi hv,by simp[h.len],h.k0.more g g',h.new.trans hN (by omega)⟩
theorem Be.all(h:Be V D ss l ss.length l1 fk Ho (n:=n))(hc:Ao V n g.l ss)(hs:ss.length<=1000):Done V D n g l l1 1 fk Ho:=
 ⟨λ_=>⟨ss,hc,h.kid,h.len,hs⟩,λh=>by omega,λh=>by omega,λ_=>h.z1,h.new⟩
theorem Bc.all(h:Bc V D n g ss l ss.length l0 fk Ho)(hc:Ao V n g.r ss)(hs:ss.length<=1000):Done V D n g l0 l 2 fk Ho:=
 ⟨λ_=>h.k0,λh=>by omega,λ_=>⟨ss,hc,h.kid,h.len,hs⟩,λh=>by omega,h.new⟩
def Iz:List Row:=[⟨0,[],37,[8]⟩,⟨1,[],38,[8]⟩,⟨2,[1],39,[7,37]⟩,⟨3,[2],40,[38]⟩,⟨4,[],41,[2]⟩,⟨5,[],42,[10]⟩,⟨6,[4,5],43,[40,41]⟩,⟨7,[6],44,[42]⟩,⟨8,[3,7,6],45,[39,43]⟩,⟨9,[0,0,1,2,3,4,5,6,7,8],46,[7,36]⟩,⟨10,[9,8,8,0,1,2,3,4,5,6,7,8],0,[45,44]⟩]
def KG:List Row:=[⟨0,[],49,[2]⟩,⟨1,[0],50,[48]⟩,⟨2,[],51,[2]⟩,⟨3,[2],52,[50]⟩,⟨4,[],53,[7]⟩,⟨5,[4],54,[52]⟩,⟨6,[],55,[7]⟩,⟨7,[6],56,[54]⟩,⟨8,[3,5,7],57,[51,53,55]⟩,⟨9,[1,8,8],58,[49,56]⟩,⟨10,[9,9,0,1,2,3,4,5,6,7,8,9],12,[57]⟩]
set_option maxHeartbeats 4000000 in
theorem PG(hV:V.Ok){N:Nat}(ih:MO V N):MO V (N+1):=by
 intro w0 pp h kb s fk n g sb w hn hT KA hG;obtain⟨i0,hi0,hz0,hz1,hz2⟩:=info_parts iy;have hM:=KA.kn;have hO:=KA.known;have hkc:=XG hV fk;have hkey:=R5 sb (hV.size hT);have hxb:Ext w (w.alloc (.cells #[.pointer (some ⟨pp,0,none⟩),.map (some kb),.func (.func V.fn) #[] V.env] 115)):=by go_grown
 have hbx:=heap_alloc_new w (.cells #[.pointer (some ⟨pp,0,none⟩),.map (some kb),.func (.func V.fn) #[] V.env] 115);go_enter Tryz.func86,Tryz.ntmps86
 go_upto_region 1 with fail
 generalize w.alloc (.cells #[.pointer (some ⟨pp,0,none⟩),.map (some kb),.func (.func V.fn) #[] V.env] 115)=W1 at *;have c1:=cell_of_row W1 w.heap.size 1 _ _ _ hbx;have hM1:=hM.keep (hxb.block _ hM.lt);cases hf:fk (.string sb)with
 |some v=>
  obtain⟨n',g',sb',i,e1,hT',rfl,hi,hc,he⟩:=hO _ _ hf;injection e1 with e1;subst e1;have he:=he.trans (hV.one hT' hT).2;have HF:=aH (And.intro hi (And.intro hc he));have Vf:=hf;clear hf hi hc he;go_wp2_with (at_lookup;refine vU rfl _ _ 113 true rfl 9 3 CU underlying113 (.int .i64 0) (Qw _) kb (kc V fk) fk rfl hM1 (.string sb) rfl hkey ?_;rw[Vf];simp only[if_true,gz,Option.isSome_some])
  go_ret
  exact⟨s,fk,i,rfl,KA.ext' hxb,rY.ext hxb,tV.refl _ _ _,HF.out.1,HF.out.2.1,HF.out.2.2⟩
 |none=>
  have Vf:=aH hf;clear hf;go_upto_region 4 with(at_lookup;refine vU rfl _ _ 113 true rfl 9 3 CU underlying113 (.int .i64 0) (Qw _) kb (kc V fk) fk rfl hM1 (.string sb) rfl hkey ?_;rw[Vf.out];simp only[if_true,Option.getD_none,Option.isSome_none])
  have K1:=KA.ext' hxb;have hxa:Ext W1 (W1.alloc (.cells #[.slice none 0 0,.slice none 0 0] 177)):=by go_grown
  have hba:=heap_alloc_new W1 (.cells #[.slice none 0 0,.slice none 0 0] 177);go_upto_region 5 with fail
  have hXb:∀b,b=w.heap.size->Aside pp h kb s W1 b:=λb hb=>by subst hb;exact KA.aside (ai _) (bG hbx)
  have hgm:GM w (W1.alloc (.cells #[.slice none 0 0,.slice none 0 0] 177)) pp h kb s W1.heap.size (.slice none 0 0) (.slice none 0 0) [] [] (λb=>b=w.heap.size):=
   ⟨hba,⟨by simp[dx],.inl ⟨rfl,rfl⟩⟩,⟨by simp[dx],.inl ⟨rfl,rfl⟩⟩,λb hb=>by simp[Value.ownBlock]at hb,λb hb=>by simp[Value.ownBlock]at hb,λb hb=>by simp[Value.ownBlock]at hb,K1.aside (ai _) (by rw[fw];omega),hxb.size,λb hb=>⟨((hXb b hb).go (rY.ext hxa)).1,by simp[Value.ownBlock],by simp[Value.ownBlock],by have:=(hXb b hb).1;omega⟩⟩
  have K2:=K1.ext' hxa;have G2:rY pp h kb s w s (W1.alloc (.cells #[.slice none 0 0,.slice none 0 0] 177)):=rY.ext (ay hxb hxa);have Wj:=(hxa.block _ (bG hbx)).trans hbx;have Jy:=hM.lt;have HD0:Hid (Done V s.D n g [] [] 0 fk fk):=aH ⟨λh=>by omega,λ_=>rfl,λh=>by omega,λ_=>rfl,tV.refl _ _ _⟩;have hmv:∀left W,Ext w0 W->Calls prog V.fn (#[.string sb,.bool left]++V.env) W (Fj V n g left W):=λleft W hW=>hV.moves left W hT (hV.ZM hG hW)
  have hent:=hV.ent;generalize W1.alloc (.cells #[.slice none 0 0,.slice none 0 0] 177)=W2 at *;generalize W1.heap.size=ab at *;clear hba hxa hbx hxb K1 c1 hM1 hXb hM;go_wp2
  go_loopw [8,10,22] (λ_ _ kk wr=>∃(k:Nat) (s1:iQ) (Kl:Value->Option Value) (v0 v1:Value) (l0 l1:List Nat),kk=.int .i64 ((k:Nat):Int)/\k<=2/\DD V 0 w0 wr pp h kb s1 Kl/\rY pp h kb s w s1 wr/\GM w wr pp h kb s1 ab v0 v1 l0 l1 (λb=>b=w.heap.size)/\wr.heap[w.heap.size]?=some (.cells #[.pointer (some ⟨pp,0,none⟩),.map (some kb),.func (.func V.fn) #[] V.env] 115 (0,0))/\Hid (Done V s1.D n g l0 l1 k fk Kl)) (λ_ _ kk _=>2-(intOf kk).toNat)
  case atStart=>exact⟨0,s,fk,_,_,[],[],rfl,by omega,K2,G2,hgm,Wj,HD0⟩
  case round=>
   clear K2 G2 hgm Wj HD0;obtain⟨k,s1,Kl,v0,v1,l0,l1,rfl,hk,KW,hgo,hm,lC,HD⟩:=hrel;have c2:=cell_of_row wr w.heap.size 2 _ _ _ lC;simp only[gM,dJ,dQ]at c2;have hk3:k=0\/k=1\/k=2:=(by omega);rcases hk3 with rfl|rfl|rfl
   .have hm0:=hm
    have Sb:w.heap.size<=wr.heap.size:=hgo.keep.size;go_wp2_with ((with_reducible refine(hmv true _ KW.ext).mono ?_);rintro e w3 ⟨vm,ss,rfl,Jv,hsl,hss,hx3⟩;obtain⟨am,cm,rfl,-,-⟩:=bD Jv)
    have fK:Hid (Ao V n g.l ss):=aH hss;clear hss;have K3:=KW.ext' hx3;have g3:=hm.adr (Y:=λb=>b=w.heap.size\/(Value.slice am ss.length cm).ownBlock=some b) KW hx3 (λb hb=>by
     rcases hb with e|e
     .exact .inl e
     .exact .inr (Jv.lt b e))
    have G3:=hgo.trans (rY.ext hx3 (s:=s1)) Jy;have hb3:=(hx3.block _ (bG lC)).trans lC;have hD3:=HD.out;obtain rfl:=hD3.z0 (by omega);have HD3:Hid (Be V s1.D ss [] 0 l1 fk Kl (n:=n)):=aH ⟨MJ.nil _ _ _,rfl,hD3.z1 (by omega),hD3.new⟩;clear hm hm0 lC KW hgo HD hD3 c2;go_loopw [10,32] (λ_ jj wr=>∃(j:Nat) (s2:iQ) (Hm:Value->Option Value) (v:Value) (l:List Nat),jj=.int .i64 ((j:Nat):Int)/\j<=ss.length/\DD V 0 w0 wr pp h kb s2 Hm/\rY pp h kb s w s2 wr/\GM w wr pp h kb s2 ab v v1 l l1 (λb=>b=w.heap.size\/(Value.slice am ss.length cm).ownBlock=some b)/\wr.heap[w.heap.size]?=some (.cells #[.pointer (some ⟨pp,0,none⟩),.map (some kb),.func (.func V.fn) #[] V.env] 115 (0,0))/\wr.ownsRow w.heap.size 9 1 (.slice am ss.length cm) ss.length (ss.map Value.string)/\Hid (Be V s2.D ss l j l1 fk Hm (n:=n))) (λ_ jj _=>ss.length-(intOf jj).toNat)
    case atStart=>exact⟨0,s1,Kl,_,_,rfl,az _,K3,G3,g3,hb3,jX Jv Sb,HD3⟩
    case round=>
     clear K3 G3 g3 hb3 HD3 Jv;obtain⟨j,s2,Hm,v,l,rfl,hj,KW,hgo,hm,lC,Jv,HD⟩:=hrel;by_cases hjl:j<ss.length
     .have h3:((j:Nat):Int)<(ss.length:Int):=by omega
      obtain⟨gm,cm',he,-,-,hcell⟩:=iB Jv (by omega);simp only[Value.slice.injEq,true_and]at he;obtain⟨rfl,rfl⟩:=he;have afd:wr.cell? ⟨gm,j,none⟩=some (.string ss[j]):=(by rw[hcell j (by omega)];simp[hjl]);obtain⟨mj,xj,hlt,hxj,hTe⟩:=fK.out.1 j hjl;obtain⟨av,cv,rfl,-,-⟩:=bD hm.r0;have hlen:l.length<=1000:=(by have:=HD.out.len;omega);have wM:mj<N:=(by omega);have HX:=aH (And.intro hTe hlt);have b0:=cell_of_row wr w.heap.size 0 _ _ _ lC;have b1:=cell_of_row wr w.heap.size 1 _ _ _ lC;have b2:=cell_of_row wr w.heap.size 2 _ _ _ lC;have ca:=cell_of_row wr ab 0 _ _ _ hm.arr;simp only[gM,dJ,dQ]at b0 b1 b2 ca;have hcall:∀W,Ext wr W->Calls prog 86 #[.agg #[.pointer (some ⟨pp,0,none⟩),.map (some kb),.func (.func V.fn) #[] V.env],.string ss[j]] W (vv V w0 pp h kb s2 Hm mj xj W):=λW hW=>ih w0 pp h kb s2 Hm mj xj _ W wM hTe (KW.ext' hW) hG
      clear hcell hlt hTe hxj;go_upto_region 11 with fail
      refine bW (λW=>W.cell? ⟨ab,0,none⟩=some (.slice av l.length cv)/\W.cell? ⟨w.heap.size,0,none⟩=some (.pointer (some ⟨pp,0,none⟩))/\W.cell? ⟨w.heap.size,1,none⟩=some (.map (some kb))/\W.cell? ⟨w.heap.size,2,none⟩=some (.func (.func V.fn) #[] V.env)) [9,10] Iz (by kernel_rfl) ⟨by kernel_rfl,by kernel_rfl,by kernel_rfl⟩ ⟨ca,b0,b1,b2⟩ (λax ae=>?_);(refine bT 0 ax ae ?_;refine bT 1 ax ae ?_;refine bT 2 ax ae ?_;refine bT 3 ax ae ?_;refine bT 4 ax ae ?_;refine bT 5 ax ae ?_);(refine oZ ax (i:=6) λK hK=>?_;go_simp);refine(hcall _ (bS ⟨1,rfl⟩)).mono ?_;rintro e4 w4 ⟨s4,fk4,i,rfl,K4,G4,N4,hi4,hc4,hv4⟩;have hxd:Ext wr (wr.drewN 1):=bS ⟨1,rfl⟩;obtain⟨gd,Pv⟩:=hm.go (rY.ext hxd);obtain⟨g4,Zu⟩:=gd.go G4;have ql:=((Zu _ (.inl rfl)).trans (Pv _ (.inl rfl))).trans lC;have YY:=BA Jv (λb hb=>(Zu b (.inr hb)).trans (Pv b (.inr hb)));have kH:=(hgo.trans (rY.ext hxd (s:=s2)) Jy).trans G4 Jy;have d0:=cell_of_row w4 w.heap.size 0 _ _ _ ql;have d1:=cell_of_row w4 w.heap.size 1 _ _ _ ql;have d2:=cell_of_row w4 w.heap.size 2 _ _ _ ql;have da:=cell_of_row w4 ab 0 _ _ _ g4.arr;simp only[gM,dJ,dQ]at d0 d1 d2 da;(refine hK.out _ _ (λ_=>?_) ?_)
      .exact⟨da,d0,d1,d2⟩
      clear hK K;(try simp only[nP]);(refine oZ ax (i:=7) λK hK=>?_;go_simp);(refine hK.out _ _ (λ_=>?_) ?_)
      .exact⟨bI da _,bI d0 _,bI d1 _,bI d2 _⟩
      clear hK K;(try simp only[nP]);refine oZ ax (i:=8) λK hK=>?_
      refine iA rfl (.tmp 39) (.tmp 43) 80 rfl w.heap.size 3 i0 (.int .i64 0) 1 8 underlying80 hi0 hz0 hz1 hz2 rfl (by decide) (.slice av l.length cv) l.length _ rfl (g4.r0.alloc _) _ 1 _ [.int .i64 ((i:Nat):Int)] rfl rfl (.inr ⟨_,rfl,cK (bP _ _ _)⟩) one_cell (by unfold maxLen;omega) (by omega) (by rw[fw];have:=kH.keep.size;omega) ?_;intro v9 w9 Vb LX Y4;obtain⟨x9,y9,rfl,-,-⟩:=bD Vb;have Sd:Ext w4 (w4.alloc (.cells #[.int .i64 ((i:Nat):Int)] 3)):=bK (Below.refl _ _) _;obtain⟨gp,LU,Zt,ca9,cf9⟩:=g4.aeO (i:=i) Sd Sd.size K4 LX Vb (by simp) (by simp[dx]) Y4;have Wm:w9.heap[w.heap.size]?=some (.cells #[.pointer (some ⟨pp,0,none⟩),.map (some kb),.func (.func V.fn) #[] V.env] 115 (0,0)):=((fD LX).block _ (aQ (bG ql) Sd.size) (λe=>(g4.qA _ (.inl rfl)).2.1 e)).trans ((Sd.block _ (bG ql)).trans ql);have e0:=cell_of_row w9 w.heap.size 0 _ _ _ Wm;have e1:=cell_of_row w9 w.heap.size 1 _ _ _ Wm;have e2:=cell_of_row w9 w.heap.size 2 _ _ _ Wm;simp only[gM,dJ,dQ]at e0 e1 e2;have HDN:Hid (Be V s4.D ss (l++[i]) (j+1) l1 fk fk4 (n:=n)):=aH (by
       obtain⟨E,hE⟩:=G4.more;have hw:=K4.pool.good.wf;rw[hE]at hw hi4 hv4 ⊢;exact HD.out.put hV KW.pool.good.wf hw (aa hjl) HX.out.1 HX.out.2 hi4 hv4 N4)
      have K9:=aH (K4.side LU (λb hb=>by
       rcases hb with e|e
       .exact(g4.a0 b e).1
       .rw[e];exact g4.UG) (λb hb=>by
       have hz0:=KA.ext.size;rcases hb with e|e
       .have:=(g4.r0.lt b e).1;omega
       .have:=g4.Xc;omega))
      have G9:=aH (kH.side LU (λb hb=>by
       rcases hb with e|e
       .exact(g4.r0.lt b e).1
       .have:=g4.Xc;omega))
      have Zr:=(Zt _ (.inl rfl)).trans ql;have SC:=BA YY (λb hb=>Zt b (.inr hb));have GP:=aH gp;(refine hK.out _ _ (λ_=>?_) ?_)
      .exact⟨ca9,e0,e1,e2⟩
      clear hK K;(try simp only[nP]);refine ow ax [9,10] [_,_] ?_;clear ax ae da d0 d1 d2 gd g4 gp LU Zt Pv Zu hm hgo kH hcall e0 e1 e2 K4 G4 N4 hc4 hv4 KW;go_wp2
      go_roundw
      case rel=>exact⟨j+1,s4,fk4,_,l++[i],by go_num,by omega,K9.out,G9.out,GP.out,Zr,SC,HDN⟩
      case measure=>simp[intOf];omega
     .have h3:¬(((j:Nat):Int)<(ss.length:Int)):=by omega
      have Za:j=ss.length:=(by omega);subst Za;have hm2:=hm.mono (Y:=λb=>b=w.heap.size) (λb hb=>.inl hb);clear hm Jv;go_wp2
      go_roundw
      case rel=>exact⟨1,s2,Hm,_,_,_,_,rfl,by omega,KW,hgo,hm2,lC,aH (HD.out.all fK.out hsl)⟩
      case measure=>simp[intOf]
   .have hm1:=hm
    have Sb:w.heap.size<=wr.heap.size:=hgo.keep.size;go_wp2_with ((with_reducible refine(hmv false _ KW.ext).mono ?_);rintro e w3 ⟨vm,ss,rfl,Jv,hsl,hss,hx3⟩;obtain⟨am,cm,rfl,-,-⟩:=bD Jv)
    have fK:Hid (Ao V n g.r ss):=aH hss;clear hss;have K3:=KW.ext' hx3;have g3:=hm.adr (Y:=λb=>b=w.heap.size\/(Value.slice am ss.length cm).ownBlock=some b) KW hx3 (λb hb=>by
     rcases hb with e|e
     .exact .inl e
     .exact .inr (Jv.lt b e))
    have G3:=hgo.trans (rY.ext hx3 (s:=s1)) Jy;have hb3:=(hx3.block _ (bG lC)).trans lC;have hD3:=HD.out;obtain rfl:=hD3.z1 (by omega);have HD3:Hid (Bc V s1.D n g ss [] 0 l0 fk Kl):=aH ⟨MJ.nil _ _ _,rfl,hD3.k0 (by omega),hD3.new⟩;clear hm hm1 lC KW hgo HD hD3 c2;go_loopw [10,32] (λ_ jj wr=>∃(j:Nat) (s2:iQ) (Hm:Value->Option Value) (v:Value) (l:List Nat),jj=.int .i64 ((j:Nat):Int)/\j<=ss.length/\DD V 0 w0 wr pp h kb s2 Hm/\rY pp h kb s w s2 wr/\GM w wr pp h kb s2 ab v0 v l0 l (λb=>b=w.heap.size\/(Value.slice am ss.length cm).ownBlock=some b)/\wr.heap[w.heap.size]?=some (.cells #[.pointer (some ⟨pp,0,none⟩),.map (some kb),.func (.func V.fn) #[] V.env] 115 (0,0))/\wr.ownsRow w.heap.size 9 1 (.slice am ss.length cm) ss.length (ss.map Value.string)/\Hid (Bc V s2.D n g ss l j l0 fk Hm)) (λ_ jj _=>ss.length-(intOf jj).toNat)
    case atStart=>exact⟨0,s1,Kl,_,_,rfl,az _,K3,G3,g3,hb3,jX Jv Sb,HD3⟩
    case round=>
     clear K3 G3 g3 hb3 HD3 Jv;obtain⟨j,s2,Hm,v,l,rfl,hj,KW,hgo,hm,lC,Jv,HD⟩:=hrel;by_cases hjl:j<ss.length
     .have h3:((j:Nat):Int)<(ss.length:Int):=by omega
      obtain⟨gm,cm',he,-,-,hcell⟩:=iB Jv (by omega);simp only[Value.slice.injEq,true_and]at he;obtain⟨rfl,rfl⟩:=he;have afd:wr.cell? ⟨gm,j,none⟩=some (.string ss[j]):=(by rw[hcell j (by omega)];simp[hjl]);obtain⟨mj,xj,hlt,hxj,hTe⟩:=fK.out.1 j hjl;obtain⟨av,cv,rfl,-,-⟩:=bD hm.r1;have hlen:l.length<=1000:=(by have:=HD.out.len;omega);have wM:mj<N:=(by omega);have HX:=aH (And.intro hTe hlt);have b0:=cell_of_row wr w.heap.size 0 _ _ _ lC;have b1:=cell_of_row wr w.heap.size 1 _ _ _ lC;have b2:=cell_of_row wr w.heap.size 2 _ _ _ lC;have ca:=cell_of_row wr ab 1 _ _ _ hm.arr;simp only[gM,dJ,dQ]at b0 b1 b2 ca;have hcall:∀W,Ext wr W->Calls prog 86 #[.agg #[.pointer (some ⟨pp,0,none⟩),.map (some kb),.func (.func V.fn) #[] V.env],.string ss[j]] W (vv V w0 pp h kb s2 Hm mj xj W):=λW hW=>ih w0 pp h kb s2 Hm mj xj _ W wM hTe (KW.ext' hW) hG
      clear hcell hlt hTe hxj;go_upto_region 11 with fail
      refine bW (λW=>W.cell? ⟨ab,1,none⟩=some (.slice av l.length cv)/\W.cell? ⟨w.heap.size,0,none⟩=some (.pointer (some ⟨pp,0,none⟩))/\W.cell? ⟨w.heap.size,1,none⟩=some (.map (some kb))/\W.cell? ⟨w.heap.size,2,none⟩=some (.func (.func V.fn) #[] V.env)) [9,10] Iz (by kernel_rfl) ⟨by kernel_rfl,by kernel_rfl,by kernel_rfl⟩ ⟨ca,b0,b1,b2⟩ (λax ae=>?_);(refine bT 0 ax ae ?_;refine bT 1 ax ae ?_;refine bT 2 ax ae ?_;refine bT 3 ax ae ?_;refine bT 4 ax ae ?_;refine bT 5 ax ae ?_);(refine oZ ax (i:=6) λK hK=>?_;go_simp);refine(hcall _ (bS ⟨1,rfl⟩)).mono ?_;rintro e4 w4 ⟨s4,fk4,i,rfl,K4,G4,N4,hi4,hc4,hv4⟩;have hxd:Ext wr (wr.drewN 1):=bS ⟨1,rfl⟩;obtain⟨gd,Pv⟩:=hm.go (rY.ext hxd);obtain⟨g4,Zu⟩:=gd.go G4;have ql:=((Zu _ (.inl rfl)).trans (Pv _ (.inl rfl))).trans lC;have YY:=BA Jv (λb hb=>(Zu b (.inr hb)).trans (Pv b (.inr hb)));have kH:=(hgo.trans (rY.ext hxd (s:=s2)) Jy).trans G4 Jy;have d0:=cell_of_row w4 w.heap.size 0 _ _ _ ql;have d1:=cell_of_row w4 w.heap.size 1 _ _ _ ql;have d2:=cell_of_row w4 w.heap.size 2 _ _ _ ql;have da:=cell_of_row w4 ab 1 _ _ _ g4.arr;simp only[gM,dJ,dQ]at d0 d1 d2 da;(refine hK.out _ _ (λ_=>?_) ?_)
      .exact⟨da,d0,d1,d2⟩
      clear hK K;(try simp only[nP]);(refine oZ ax (i:=7) λK hK=>?_;go_simp);(refine hK.out _ _ (λ_=>?_) ?_)
      .exact⟨bI da _,bI d0 _,bI d1 _,bI d2 _⟩
      clear hK K;(try simp only[nP]);refine oZ ax (i:=8) λK hK=>?_
      refine iA rfl (.tmp 39) (.tmp 43) 80 rfl w.heap.size 3 i0 (.int .i64 0) 1 8 underlying80 hi0 hz0 hz1 hz2 rfl (by decide) (.slice av l.length cv) l.length _ rfl (g4.r1.alloc _) _ 1 _ [.int .i64 ((i:Nat):Int)] rfl rfl (.inr ⟨_,rfl,cK (bP _ _ _)⟩) one_cell (by unfold maxLen;omega) (by omega) (by rw[fw];have:=kH.keep.size;omega) ?_;intro v9 w9 Vb LX Y4;obtain⟨x9,y9,rfl,-,-⟩:=bD Vb;have Sd:Ext w4 (w4.alloc (.cells #[.int .i64 ((i:Nat):Int)] 3)):=bK (Below.refl _ _) _;obtain⟨gp,LU,Zt,ca9,cf9⟩:=g4.aeN (i:=i) Sd Sd.size K4 LX Vb (by simp) (by simp[dx]) Y4;have Wm:w9.heap[w.heap.size]?=some (.cells #[.pointer (some ⟨pp,0,none⟩),.map (some kb),.func (.func V.fn) #[] V.env] 115 (0,0)):=((fD LX).block _ (aQ (bG ql) Sd.size) (λe=>(g4.qA _ (.inl rfl)).2.2.1 e)).trans ((Sd.block _ (bG ql)).trans ql);have e0:=cell_of_row w9 w.heap.size 0 _ _ _ Wm;have e1:=cell_of_row w9 w.heap.size 1 _ _ _ Wm;have e2:=cell_of_row w9 w.heap.size 2 _ _ _ Wm;simp only[gM,dJ,dQ]at e0 e1 e2;have HDN:Hid (Bc V s4.D n g ss (l++[i]) (j+1) l0 fk fk4):=aH (by
       obtain⟨E,hE⟩:=G4.more;have hw:=K4.pool.good.wf;rw[hE]at hw hi4 hv4 ⊢;exact HD.out.put hV KW.pool.good.wf hw (aa hjl) HX.out.1 HX.out.2 hi4 hv4 N4)
      have K9:=aH (K4.side LU (λb hb=>by
       rcases hb with e|e
       .exact(g4.a1 b e).1
       .rw[e];exact g4.UG) (λb hb=>by
       have hz0:=KA.ext.size;rcases hb with e|e
       .have:=(g4.r1.lt b e).1;omega
       .have:=g4.Xc;omega))
      have G9:=aH (kH.side LU (λb hb=>by
       rcases hb with e|e
       .exact(g4.r1.lt b e).1
       .have:=g4.Xc;omega))
      have Zr:=(Zt _ (.inl rfl)).trans ql;have SC:=BA YY (λb hb=>Zt b (.inr hb));have GP:=aH gp;(refine hK.out _ _ (λ_=>?_) ?_)
      .exact⟨ca9,e0,e1,e2⟩
      clear hK K;(try simp only[nP]);refine ow ax [9,10] [_,_] ?_;clear ax ae da d0 d1 d2 gd g4 gp LU Zt Pv Zu hm hgo kH hcall e0 e1 e2 K4 G4 N4 hc4 hv4 KW;go_wp2
      go_roundw
      case rel=>exact⟨j+1,s4,fk4,_,l++[i],by go_num,by omega,K9.out,G9.out,GP.out,Zr,SC,HDN⟩
      case measure=>simp[intOf];omega
     .have h3:¬(((j:Nat):Int)<(ss.length:Int)):=by omega
      have Za:j=ss.length:=(by omega);subst Za;have hm2:=hm.mono (Y:=λb=>b=w.heap.size) (λb hb=>.inl hb);clear hm Jv;go_wp2
      go_roundw
      case rel=>exact⟨2,s2,Hm,_,_,_,_,rfl,by omega,KW,hgo,hm2,lC,aH (HD.out.all fK.out hsl)⟩
      case measure=>simp[intOf]
   .have hD3:=HD.out
    have hkL:=(hD3.k0 (by omega)).lt;have hkR:=(hD3.k1 (by omega)).lt;have alH:=XG hV Kl;have ali:=KW.small;have hroom1:s1.D.length+1<=900000:=(by omega);have hm1:kc V Kl<maxLen:=(by unfold maxLen;omega);have afu:=aH (hD3.new.none hV hT Vf.out);have ND:∀W,Ext wr W->Calls prog 119 #[.pointer (some ⟨pp,0,none⟩),v0,v1] W (Ah pp h s1 l0 l1 W):=λW hW=>yF pp h s1 v0 v1 l0 l1 W (KW.pool.ext hW) hroom1 hkL.1 hkR.1 (by omega) (by omega) (Ints.eO (dn hm.r0 hW) (by rw[bu];omega)) (Ints.eO (dn hm.r1 hW) (by rw[bu];omega))
    obtain⟨x0,y0,rfl,-,-⟩:=bD hm.r0;obtain⟨x1,y1,rfl,-,-⟩:=bD hm.r1;have HD3:=aH hD3;have b0:=cell_of_row wr w.heap.size 0 _ _ _ lC;have ca0:=cell_of_row wr ab 0 _ _ _ hm.arr;have ca1:=cell_of_row wr ab 1 _ _ _ hm.arr;simp only[gM,dJ,dQ]at b0 ca0 ca1;clear hD3 HD;go_upto_region 14 with fail
    refine bW (λW=>W.cell? ⟨w.heap.size,0,none⟩=some (.pointer (some ⟨pp,0,none⟩))/\W.cell? ⟨ab,0,none⟩=some (.slice x0 l0.length y0)/\W.cell? ⟨ab,1,none⟩=some (.slice x1 l1.length y1)) [10] KG (by kernel_rfl) ⟨by kernel_rfl,by kernel_rfl,by kernel_rfl⟩ ⟨b0,ca0,ca1⟩ (λax ae=>?_);(refine bT 0 ax ae ?_;refine bT 1 ax ae ?_;refine bT 2 ax ae ?_;refine bT 3 ax ae ?_;refine bT 4 ax ae ?_;refine bT 5 ax ae ?_;refine bT 6 ax ae ?_;refine bT 7 ax ae ?_);(refine oZ ax (i:=8) λK hK=>?_;go_simp);refine(ND _ (bS ⟨1,rfl⟩)).mono ?_;rintro e5 w5 ⟨s5,f,rfl,k5,p5,c5⟩;have hxd:Ext wr (wr.drewN 1):=bS ⟨1,rfl⟩;obtain⟨gd,Pv⟩:=hm.go (rY.ext hxd);obtain⟨g5,XT⟩:=gd.go (rY.pool (kb:=kb) k5);have yS:=((XT _ rfl).trans (Pv _ rfl)).trans lC;have d0:=cell_of_row w5 w.heap.size 0 _ _ _ yS;have da0:=cell_of_row w5 ab 0 _ _ _ g5.arr;have da1:=cell_of_row w5 ab 1 _ _ _ g5.arr;simp only[gM,dJ,dQ]at d0 da0 da1;(refine hK.out _ _ (λ_=>?_) ?_)
    .exact⟨d0,da0,da1⟩
    clear hK K;(try simp only[nP]);have hf5:f<s5.D.length:=p5.lt;have Sq:s5.D.length+miss (f+1) s5.cn<=900000:=by
     have h2:s5.D.length<=s1.D.length+1:=by
      rcases p5.2 with e|e
      .rw[e];omega
      .rw[e];simp
     have h1:miss (f+1) s5.cn<=1:=I8 (f:=f) λx hx hxf=>by
      rw[c5];exact KW.all x (by omega)
     omega
    (refine oZ ax (i:=9) λK hK=>?_;go_simp);refine(Cw pp h s5 f w5 k5.pool hf5 Sq).mono ?_;rintro e6 w6 ⟨s6,j,rfl,k6,af4,hG6⟩;obtain⟨g6,hX6⟩:=g5.go (rY.pool (kb:=kb) k6);have XQ:=(hX6 _ rfl).trans yS;have q0:=cell_of_row w6 w.heap.size 0 _ _ _ XQ;have q1:=cell_of_row w6 w.heap.size 1 _ _ _ XQ;have qa0:=cell_of_row w6 ab 0 _ _ _ g6.arr;have qa1:=cell_of_row w6 ab 1 _ _ _ g6.arr;simp only[gM,dJ,dQ]at q0 q1 qa0 qa1;(refine hK.out _ _ (λ_=>?_) ?_)
    .exact⟨q0,qa0,qa1⟩
    clear hK K;(try simp only[nP]);refine ow ax [10] [_] ?_;obtain⟨K6,G6,s61,s62,s63,s64⟩:=step_done (KW.ext' hxd) k5 p5 c5 k6 af4 hG6;have hev:=s64.trans (Ox KW.pool.good.wf k5.pool.good.wf (HD3.out.k0 (by omega)) (HD3.out.k1 (by omega)) p5);have hM6:=K6.kn;have HF:=aH (And.intro s61 (And.intro s62 (And.intro s63 hev)));clear ax ae d0 da0 da1 q0 qa0 qa1 b0 ca0 ca1 ND gd g5 g6 Pv XT hX6 hm s61 s62 s63 s64 hev lC yS Sq hroom1;go_wp2_with (at_mapUpdate;refine iT rfl _ _ _ 113 rfl 9 3 CU underlying113 kb (kc V Kl) Kl rfl hM6 hm1 (.string sb) (.int .i64 ((j:Nat):Int)) rfl rfl hkey ?_;intro w7 hM7 Hf)
    go_ret
    exact⟨s6,_,j,rfl,K6.learn hV hM7 Hf hT afu.out HF.out.2.1 HF.out.2.2.1 HF.out.2.2.2,((hgo.trans (rY.ext hxd (s:=s1)) Jy).trans G6 Jy).learn Hf,HD3.out.new.learn hT,HF.out.2.1,HF.out.2.2.1,HF.out.2.2.2⟩
end Go.Proofs.YteknjeohbcgpdaaGreatDoor