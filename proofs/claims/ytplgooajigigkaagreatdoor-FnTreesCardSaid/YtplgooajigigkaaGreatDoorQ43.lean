/- 43 -/
import Derived.Test.YtplgooajigigkaaGreatDoorQ42
set_option maxRecDepth 100000
set_option maxHeartbeats 4000000
namespace Go.Proofs.YtplgooajigigkaaGreatDoor
open Tryz
open Go.RowKit
open aZ (cZ Nd vl Gm Canon eU)
variable {w w':World} {e n a b d0 m0 d m d' m' i pp h kb:Nat} {us:List Int} {sg:List UInt8} {D E:cZ} {l0 l1:List Nat} {s:iK}
theorem Ay{B sz:Nat}{v:Value}{xs:List Value}(h:w.ownsRow B e sz v n xs)(hb:∀b,v.ownBlock=some b->w'.heap[b]?=w.heap[b]?):w'.ownsRow B e sz v n xs:=by
 obtain⟨hl,h2⟩:=h;refine⟨hl,?_⟩;rcases h2 with h2|⟨g,cap,cur,e1,hB,hg,rest⟩
 .exact .inl h2
 .exact .inr ⟨g,cap,cur,e1,hB,(hb g (by rw[e1];rfl)).trans hg,rest⟩
theorem room_end{c:Nat}(h:c<=n):c*kN (n-1)+1<=kN n:=by
 rcases pM n with e|e
 .subst e
  have:c=0:=by omega
  subst this;simp[kN]
 .obtain⟨k,rfl⟩:∃k,n=k+1:=⟨n-1,by omega⟩
  rw[jE,kN];have:=kV (kN k) h;omega
theorem N8{sb:ByteArray}(h:Told us sg sb):sb.size<=maxLen:=by
 have h1:sb.size=sb.data.toList.length:=by rw[ib];rfl
 have h2:=Ar 32 us;have h3:=h.1.len;have h4:=h.1.small;rw[h1,h.2,aK];unfold maxLen;omega
theorem IA{left:Bool}{ss:List ByteArray}(g:GT us sg)(h:ss.map (·.data.toList)=(dU sg left us.length).map λe=>JV (iJ us sg e,lW us sg e)){j:Nat}(hj:j<ss.length):
 ∃e,(dU sg left us.length)[j]?=some e/\Told (iJ us sg e) (lW us sg e) ss[j]/\(iJ us sg e).length<us.length:=by
 have hl:=congrArg List.length h;simp only[bH]at hl;have Xi:j<(dU sg left us.length).length:=by omega
 refine⟨(dU sg left us.length)[j],ae Xi,?_⟩;have h1:(ss.map (·.data.toList))[j]?=some (ss[j].data.toList):=by rw[bO,ae hj];rfl
 rw[h,bO,ae Xi]at h1;simp only[eT,bN]at h1;have hc:=qh g (uR (aj Xi));exact⟨⟨hc.1,h1.symm⟩,hc.2⟩
def uY(w0:World)(pp h kb:Nat)(s:iK)(m:Nat)(us:List Int)(sg:List UInt8)(w:World)(e:Ending)(w':World):Prop:=
 ∃s' m' i,e=.returned (.int .i64 ((i:Nat):Int))/\CE w0 w' pp h kb s' m'/\tK pp h kb s w s' w'/\i<s'.D.length/\Canon (vl s'.D i)/\eU (vl s'.D i) (tg us sg)/\s'.D.length<=s.D.length+2*kN us.length/\m'<=m+kN us.length
def Mv(n:Nat):Prop:=∀(w0:World) (pp h kb:Nat) (s:iK) (m:Nat) (us:List Int) (sg:List UInt8) (sb:ByteArray) (w:World),us.length<n->Told us sg sb->CE w0 w pp h kb s m->Qp w0->s.D.length+2*kN us.length<=900000->m+kN us.length<=900000->
 Calls prog 87 #[.agg #[.pointer (some ⟨pp,0,none⟩),.map (some kb),.func (.func 44) #[] #[]],.string sb] w (uY w0 pp h kb s m us sg w)
structure Done(D:cZ)(us:List Int)(sg:List UInt8)(l0 l1:List Nat)(a b:Nat)(d0 m0 d m:Nat):Prop where
 kl:F5 D us sg true l0
 kr:F5 D us sg false l1
 nl:l0.length=a
 nr:l1.length=b
 sd:d<=d0+2*((l0.length+l1.length)*kN (us.length-1))
 sm:m<=m0+(l0.length+l1.length)*kN (us.length-1)
theorem Done.more{D E:cZ}{us:List Int}{sg:List UInt8}{l0 l1:List Nat}{a b d0 m0 d m:Nat}(h:Done D us sg l0 l1 a b d0 m0 d m)(g:aZ.WF D)(g':aZ.WF (D++E)):F5 (D++E) us sg true l0/\F5 (D++E) us sg false l1:=⟨h.kl.more g g',h.kr.more g g'⟩
theorem Done.Zw(h:Done D us sg l0 l1 a b d0 m0 d m)(g:aZ.WF D)(g':aZ.WF (D++E))(he:(dU sg true us.length)[a]?=some e)(hi:i<(D++E).length)(hv:eU (vl (D++E) i) (tg (iJ us sg e) (lW us sg e)))(hk:(iJ us sg e).length<us.length)(hd:d'<=d+2*kN (iJ us sg e).length)(hm:m'<=m+kN (iJ us sg e).length):Done (D++E) us sg (l0++[i]) l1 (a+1) b d0 m0 d' m':=by
 have h2:kN (iJ us sg e).length<=kN (us.length-1):=vL (by omega);have h3:=h.sd;have h4:=h.sm;have h5:(l0++[i]).length+l1.length=(l0.length+l1.length)+1:=by simp;omega
 obtain⟨k1,k2⟩:=h.more g g';have hn:=h.nl;subst hn;have h6:=Nat.succ_mul (l0.length+l1.length) (kN (us.length-1));rw[Nat.succ_eq_add_one]at h6;refine⟨k1.add he hi hv,k2,by simp,h.nr,?_,?_⟩
 .rw[h5];omega
 .rw[h5];omega
theorem Done.Hm(h:Done D us sg l0 l1 a b d0 m0 d m)(g:aZ.WF D)(g':aZ.WF (D++E))(he:(dU sg false us.length)[b]?=some e)(hi:i<(D++E).length)(hv:eU (vl (D++E) i) (tg (iJ us sg e) (lW us sg e)))(hk:(iJ us sg e).length<us.length)(hd:d'<=d+2*kN (iJ us sg e).length)(hm:m'<=m+kN (iJ us sg e).length):Done (D++E) us sg l0 (l1++[i]) a (b+1) d0 m0 d' m':=by
 have h2:kN (iJ us sg e).length<=kN (us.length-1):=vL (by omega);have h3:=h.sd;have h4:=h.sm;have h5:l0.length+(l1++[i]).length=(l0.length+l1.length)+1:=by simp;omega
 obtain⟨k1,k2⟩:=h.more g g';have hn:=h.nr;subst hn;have h6:=Nat.succ_mul (l0.length+l1.length) (kN (us.length-1));rw[Nat.succ_eq_add_one]at h6;refine⟨k1,k2.add he hi hv,h.nl,by simp,?_,?_⟩
 .rw[h5];omega
 .rw[h5];omega
theorem Done.room(h:Done D us sg l0 l1 a b d0 m0 d m)(hc:a+b+1<=us.length)(hk:(iJ us sg e).length<us.length)(h1:d0+2*kN us.length<=900000)(h2:m0+kN us.length<=900000):d+2*kN (iJ us sg e).length<=900000/\m+kN (iJ us sg e).length<=900000/\l0.length<=8+us.length/\l1.length<=8+us.length:=by
 have h5:kN (iJ us sg e).length<=kN (us.length-1):=vL (by omega);have h3:=h.sd;have h4:=h.sm;have h6:=Ni hc;have hn:=h.nl;have hn':=h.nr;rw[hn,hn']at h3 h4;refine⟨?_,?_,?_,?_⟩ <;> omega
theorem CE.learn{w0:World}{fk:Value->Option Value}(k:CE w0 w pp h kb s m)(hM:fM prog 9 w' kb m' fk)(hg:w.grownBy w' (some kb))(hO:oZ s.D fk):CE w0 w' pp h kb s m':=by
 have hk:=gH hg;exact⟨k.pool.keep hk (λb h1 h2=>k.kb1 (by subst h2;exact h1)) (λb h1 h2=>k.Vq (by subst h2;exact h1)),k.all,⟨fk,hM,hO⟩,k.kb1,k.Vq,k.kb0,k.base,jQ k.ext hk (λb hb=>by subst hb;exact k.kb0)⟩
theorem tK.learn{s1:iK}{w1 w3:World}(k:tK pp h kb s w s1 w1)(hg:w1.grownBy w3 (some kb)):tK pp h kb s w s1 w3:=
 ⟨k.keep.trans (gH hg) (λx _ hx=>.inr hx),k.own,k.lists,k.more⟩
theorem Qr(w:World):(zeroValue 3).run prog w=.ok (.int .i64 0) w:=Gi w
def GX:List Row:=[⟨0,[],37,[8]⟩,⟨1,[],38,[8]⟩,⟨2,[1],39,[7,37]⟩,⟨3,[2],40,[38]⟩,⟨4,[],41,[2]⟩,⟨5,[],42,[10]⟩,⟨6,[4,5],43,[40,41]⟩,⟨7,[6],44,[42]⟩,⟨8,[3,7,6],45,[39,43]⟩,⟨9,[0,0,1,2,3,4,5,6,7,8],46,[7,36]⟩,⟨10,[9,8,8,0,1,2,3,4,5,6,7,8],0,[45,44]⟩]
def Kb:List Row:=[⟨0,[],49,[2]⟩,⟨1,[0],50,[48]⟩,⟨2,[],51,[2]⟩,⟨3,[2],52,[50]⟩,⟨4,[],53,[7]⟩,⟨5,[4],54,[52]⟩,⟨6,[],55,[7]⟩,⟨7,[6],56,[54]⟩,⟨8,[3,5,7],57,[51,53,55]⟩,⟨9,[1,8,8],58,[49,56]⟩,⟨10,[9,9,0,1,2,3,4,5,6,7,8,9],12,[57]⟩]
theorem Px(ih:Mv n):Mv (n+1):=by
 intro w0 pp h kb s m us sg sb w hn hT KA hG hsz hmz;obtain⟨i0,hi0,hz0,hz1,hz2⟩:=info_parts fB;obtain⟨fk,hM,hO⟩:=id KA.kn;have hkey:=R5 sb (N8 hT);have hxb:Ext w (w.alloc (.cells #[.pointer (some ⟨pp,0,none⟩),.map (some kb),.func (.func 44) #[] #[]] 127)):=by go_grown
 have hbx:=dV w (.cells #[.pointer (some ⟨pp,0,none⟩),.map (some kb),.func (.func 44) #[] #[]] 127);go_enter Tryz.func87,Tryz.ntmps87
 go_upto_region 1 with fail
 generalize w.alloc (.cells #[.pointer (some ⟨pp,0,none⟩),.map (some kb),.func (.func 44) #[] #[]] 127)=W1 at *;have c1:=bI W1 w.heap.size 1 _ _ _ hbx;have hM1:=hM.keep (hxb.block _ hM.lt);have hkp:=ZI us.length;cases hf:fk (.string sb)with
 |some v=>
  obtain⟨Yu,Vl,sb',i,e1,hT',rfl,hi,hc,he⟩:=hO _ _ hf;injection e1 with e1;subst e1;obtain⟨rfl,rfl⟩:=VW hT hT';have HF:=yD hi hc he;have Xl:=hf;clear hf hi hc he;go_wp2_with (at_lookup;refine vI rfl _ _ 125 true rfl 9 3 BM underlying125 (.int .i64 0) (Qr _) kb m fk rfl hM1 (.string sb) rfl hkey ?_;rw[Xl];simp only[if_true,gM,Option.isSome_some])
  go_ret
  exact⟨s,m,i,rfl,KA.ext' hxb,tK.ext hxb,HF.out.1,HF.out.2.1,HF.out.2.2,by omega,by omega⟩
 |none=>
  have Xl:=aI hf;clear hf;go_upto_region 4 with(at_lookup;refine vI rfl _ _ 125 true rfl 9 3 BM underlying125 (.int .i64 0) (Qr _) kb m fk rfl hM1 (.string sb) rfl hkey ?_;rw[Xl.out];simp only[if_true,Option.getD_none,Option.isSome_none])
  have K1:=KA.ext' hxb;have hxa:Ext W1 (W1.alloc (.cells #[.slice none 0 0,.slice none 0 0] 117)):=by go_grown
  have Xu:=dV W1 (.cells #[.slice none 0 0,.slice none 0 0] 117);go_upto_region 5 with fail
  have hXb:∀b,b=w.heap.size->Aside pp h kb s W1 b:=λb hb=>by subst hb;exact KA.aside (ax _) (bq hbx)
  have hgm:GM w (W1.alloc (.cells #[.slice none 0 0,.slice none 0 0] 117)) pp h kb s W1.heap.size (.slice none 0 0) (.slice none 0 0) [] [] (λb=>b=w.heap.size):=
   ⟨Xu,⟨by simp[bV],.inl ⟨rfl,rfl⟩⟩,⟨by simp[bV],.inl ⟨rfl,rfl⟩⟩,λb hb=>by simp[Value.ownBlock]at hb,λb hb=>by simp[Value.ownBlock]at hb,λb hb=>by simp[Value.ownBlock]at hb,K1.aside (ax _) (by rw[eX];omega),hxb.size,λb hb=>⟨((hXb b hb).go (tK.ext hxa)).1,by simp[Value.ownBlock],by simp[Value.ownBlock],by have:=(hXb b hb).1;omega⟩⟩
  have K2:=K1.ext' hxa;have G2:tK pp h kb s w s (W1.alloc (.cells #[.slice none 0 0,.slice none 0 0] 117)):=tK.ext (ah hxb hxa);have Xr:=kY hxa hbx;have I6:=hM.lt;have HD0:Hid (Done s.D us sg [] [] 0 0 s.D.length m s.D.length m):=aI ⟨F5.nil _ _ _ _,F5.nil _ _ _ _,rfl,rfl,by simp,by simp⟩;generalize W1.alloc (.cells #[.slice none 0 0,.slice none 0 0] 117)=W2 at *;generalize W1.heap.size=ab at *;clear Xu hxa hbx hxb K1 c1 hM1 hXb hM;have hel:=lV sg us.length;go_wp2
  go_loopw [8,10,22] (λ_ _ kk wr=>∃(k:Nat) (s1:iK) (m1:Nat) (v0 v1:Value) (l0 l1:List Nat),kk=.int .i64 ((k:Nat):Int)/\k<=2/\CE w0 wr pp h kb s1 m1/\tK pp h kb s w s1 wr/\GM w wr pp h kb s1 ab v0 v1 l0 l1 (λb=>b=w.heap.size)/\wr.heap[w.heap.size]?=some (.cells #[.pointer (some ⟨pp,0,none⟩),.map (some kb),.func (.func 44) #[] #[]] 127 (0,0))/\Hid (Done s1.D us sg l0 l1 (if 1<=k then(dU sg true us.length).length else 0) (if 2<=k then(dU sg false us.length).length else 0) s.D.length m s1.D.length m1)) (λ_ _ kk _=>2-(intOf kk).toNat)
  case atStart=>exact⟨0,s,m,_,_,[],[],rfl,by omega,K2,G2,hgm,Xr,HD0⟩
  case round=>
   clear K2 G2 hgm Xr HD0;obtain⟨k,s1,m1,v0,v1,l0,l1,rfl,hk,KW,hgo,hm,jk,HD⟩:=hrel;have c2:=bI wr w.heap.size 2 _ _ _ jk;simp only[fG,dQ,ek]at c2;have hk3:k=0\/k=1\/k=2:=(by omega);rcases hk3 with rfl|rfl|rfl
   .have hm0:=hm
    have hzr:w.heap.size<=wr.heap.size:=hgo.keep.size;go_wp2_with (go_at_call 44;refine(Iz sb us sg true hT.1 hT.2 wr (hG.ext KW.ext)).mono ?_;rintro e w3 ⟨vm,ss,rfl,I4,hss,hx3⟩;obtain⟨am,cm,rfl,-,-⟩:=bu I4)
    have hsl:ss.length=(dU sg true us.length).length:=(by have:=congrArg List.length hss;simpa using this);have PZ:=aI hsl;have K3:=KW.ext' hx3;have g3:=hm.ad6 (Y:=λb=>b=w.heap.size\/(Value.slice am ss.length cm).ownBlock=some b) KW hx3 (λb hb=>by
     rcases hb with e|e
     .exact .inl e
     .exact .inr (I4.lt b e))
    have G3:=hgo.trans (tK.ext hx3 (s:=s1)) I6;have hb3:=kY hx3 jk;have hD3:=HD.out;rw[show(if 1<=0 then(dU sg true us.length).length else 0)=0 from by simp,show(if 2<=0 then(dU sg false us.length).length else 0)=0 from by simp]at hD3;have HD3:=aI hD3;clear hm hm0 jk KW hgo HD hD3 c2 hsl;go_loopw [10,32] (λ_ jj wr=>∃(j:Nat) (s2:iK) (m2:Nat) (v:Value) (l:List Nat),jj=.int .i64 ((j:Nat):Int)/\j<=ss.length/\CE w0 wr pp h kb s2 m2/\tK pp h kb s w s2 wr/\GM w wr pp h kb s2 ab v v1 l l1 (λb=>b=w.heap.size\/(Value.slice am ss.length cm).ownBlock=some b)/\wr.heap[w.heap.size]?=some (.cells #[.pointer (some ⟨pp,0,none⟩),.map (some kb),.func (.func 44) #[] #[]] 127 (0,0))/\wr.ownsRow w.heap.size 9 1 (.slice am ss.length cm) ss.length (ss.map Value.string)/\Hid (Done s2.D us sg l l1 j 0 s.D.length m s2.D.length m2)) (λ_ jj _=>ss.length-(intOf jj).toNat)
    case atStart=>exact⟨0,s1,m1,_,_,rfl,az _,K3,G3,g3,hb3,jD I4 hzr,HD3⟩
    case round=>
     clear K3 G3 g3 hb3 HD3 I4;obtain⟨j,s2,m2,v,l,rfl,hj,KW,hgo,hm,jk,I4,HD⟩:=hrel;by_cases hjl:j<ss.length
     .have h3:((j:Nat):Int)<(ss.length:Int):=by omega
      have hjL:j<(dU sg true us.length).length:=(by have:=PZ.out;omega);obtain⟨gm,cm',he,-,-,hcell⟩:=gY I4 (by omega);simp only[gz,true_and]at he;obtain⟨rfl,rfl⟩:=he;have afZ:wr.cell? ⟨gm,j,none⟩=some (.string ss[j]):=(by rw[hcell j (by omega)];simp[hjl]);obtain⟨e,Ta,hTe,hlt⟩:=IA hT.1 hss hjl;obtain⟨av,cv,rfl,-,-⟩:=bu hm.r0;obtain⟨r1,r2,r3,r4⟩:=HD.out.room (e:=e) (by omega) hlt hsz hmz;have hus:=hT.1.small;have hlen:l.length<=100:=(by omega);have HX:=JM Ta hlt r1 r2;have b0:=bI wr w.heap.size 0 _ _ _ jk;have b1:=bI wr w.heap.size 1 _ _ _ jk;have b2:=bI wr w.heap.size 2 _ _ _ jk;have ca:=bI wr ab 0 _ _ _ hm.arr;simp only[fG,dQ,ek]at b0 b1 b2 ca;have hcall:∀W,Ext wr W->Calls prog 87 #[.agg #[.pointer (some ⟨pp,0,none⟩),.map (some kb),.func (.func 44) #[] #[]],.string ss[j]] W (uY w0 pp h kb s2 m2 (iJ us sg e) (lW us sg e) W):=λW hW=>ih w0 pp h kb s2 m2 _ _ _ W (by omega) hTe (KW.ext' hW) hG r1 r2
      clear hcell Ta r1 r2 r3 r4 hlt;go_upto_region 11 with fail
      refine mQ (λW=>W.cell? ⟨ab,0,none⟩=some (.slice av l.length cv)/\W.cell? ⟨w.heap.size,0,none⟩=some (.pointer (some ⟨pp,0,none⟩))/\W.cell? ⟨w.heap.size,1,none⟩=some (.map (some kb))/\W.cell? ⟨w.heap.size,2,none⟩=some (.func (.func 44) #[] #[])) [9,10] GX ⟨ca,b0,b1,b2⟩ (λai aa=>?_);(refine bg 0 ai aa ?_;refine bg 1 ai aa ?_;refine bg 2 ai aa ?_;refine bg 3 ai aa ?_;refine bg 4 ai aa ?_;refine bg 5 ai aa ?_);(refine kS ai (i:=6) λK hK=>?_;go_simp);refine(hcall _ (dz ⟨1,rfl⟩)).mono ?_;rintro e4 w4 ⟨s4,m4,i,rfl,K4,G4,hi4,hc4,hv4,hs4,Af⟩;have hxd:Ext wr (wr.drewN 1):=dz ⟨1,rfl⟩;obtain⟨gd,Pp⟩:=hm.go (tK.ext hxd);obtain⟨g4,hX4⟩:=gd.go G4;have rz:=((hX4 _ (.inl rfl)).trans (Pp _ (.inl rfl))).trans jk;have ZV:=Ay I4 (λb hb=>(hX4 b (.inr hb)).trans (Pp b (.inr hb)));have ll:=(hgo.trans (tK.ext hxd (s:=s2)) I6).trans G4 I6;have d0:=bI w4 w.heap.size 0 _ _ _ rz;have d1:=bI w4 w.heap.size 1 _ _ _ rz;have d2:=bI w4 w.heap.size 2 _ _ _ rz;have da:=bI w4 ab 0 _ _ _ g4.arr;simp only[fG,dQ,ek]at d0 d1 d2 da;(refine hK.out _ _ (λ_=>?_) ?_)
      .exact⟨da,d0,d1,d2⟩
      clear hK K;(try simp only[nP]);(refine kS ai (i:=7) λK hK=>?_;go_simp);(refine hK.out _ _ (λ_=>?_) ?_)
      .exact⟨aQ da _,aQ d0 _,aQ d1 _,aQ d2 _⟩
      clear hK K;(try simp only[nP]);refine kS ai (i:=8) λK hK=>?_
      refine gu rfl (.tmp 39) (.tmp 43) 41 rfl w.heap.size 3 i0 (.int .i64 0) 1 8 underlying41 hi0 hz0 hz1 hz2 rfl (by decide) (.slice av l.length cv) l.length _ rfl (g4.r0.alloc _) _ 1 _ [.int .i64 ((i:Nat):Int)] rfl rfl (.inr ⟨_,rfl,dA (bY _ _ _)⟩) one_cell (by unfold maxLen;omega) (by omega) (by rw[eX];have:=ll.keep.size;omega) ?_;intro v9 w9 Vt Lv Z5;obtain⟨x9,y9,rfl,-,-⟩:=bu Vt;have yG:Ext w4 (w4.alloc (.cells #[.int .i64 ((i:Nat):Int)] 3)):=bJ (fJ _ _) _;obtain⟨gp,Ll,hX9,ca9,cf9⟩:=g4.Zw (i:=i) yG yG.size K4 Lv Vt (by simp) (by simp[bV]) Z5;have YW:w9.heap[w.heap.size]?=some (.cells #[.pointer (some ⟨pp,0,none⟩),.map (some kb),.func (.func 44) #[] #[]] 127 (0,0)):=((gN Lv).block _ (aJ (bq rz) yG.size) (λe=>(g4.qw _ (.inl rfl)).2.1 e)).trans (kY yG rz);have e0:=bI w9 w.heap.size 0 _ _ _ YW;have e1:=bI w9 w.heap.size 1 _ _ _ YW;have e2:=bI w9 w.heap.size 2 _ _ _ YW;simp only[fG,dQ,ek]at e0 e1 e2;have HDN:Hid (Done s4.D us sg (l++[i]) l1 (j+1) 0 s.D.length m s4.D.length m4):=aI (by
       obtain⟨E,hE⟩:=G4.more;have hw:=K4.pool.good.wf;rw[hE]at hw hi4 hv4 hs4 ⊢;exact HD.out.Zw KW.pool.good.wf hw HX.out.1 hi4 hv4 HX.out.2.1 hs4 Af)
      have K9:=aI (K4.side Ll (λb hb=>by
       rcases hb with e|e
       .exact(g4.a0 b e).1
       .rw[e];exact g4.UF) (λb hb=>by
       have hz0:=KA.ext.size;rcases hb with e|e
       .have:=(g4.r0.lt b e).1;omega
       .have:=g4.X9;omega))
      have G9:=aI (ll.side Ll (λb hb=>by
       rcases hb with e|e
       .exact(g4.r0.lt b e).1
       .have:=g4.X9;omega))
      have aao:=(hX9 _ (.inl rfl)).trans rz;have Sz:=Ay ZV (λb hb=>hX9 b (.inr hb));have GP:=aI gp;(refine hK.out _ _ (λ_=>?_) ?_)
      .exact⟨ca9,e0,e1,e2⟩
      clear hK K;(try simp only[nP]);refine mM ai [9,10] [_,_] ?_;clear ai aa da d0 d1 d2 gd g4 gp Ll hX9 Pp hX4 hm hgo ll hcall e0 e1 e2 K4 G4 hc4 hv4 hs4 Af KW;go_wp2
      go_roundw
      case rel=>exact⟨j+1,s4,m4,_,l++[i],by go_num,by omega,K9.out,G9.out,GP.out,aao,Sz,HDN⟩
      case measure=>simp[intOf];omega
     .have h3:¬(((j:Nat):Int)<(ss.length:Int)):=by omega
      have Xi:j=ss.length:=(by omega);subst Xi;have hm2:=hm.mono (Y:=λb=>b=w.heap.size) (λb hb=>.inl hb);clear hm I4;go_wp2
      go_roundw
      case rel=>exact⟨1,s2,m2,_,_,_,_,rfl,by omega,KW,hgo,hm2,jk,aI (by have:=HD.out;rw[PZ.out]at this;simpa using this)⟩
      case measure=>simp[intOf]
   .have hm1:=hm
    have hzr:w.heap.size<=wr.heap.size:=hgo.keep.size;go_wp2_with (go_at_call 44;refine(Iz sb us sg false hT.1 hT.2 wr (hG.ext KW.ext)).mono ?_;rintro e w3 ⟨vm,ss,rfl,I4,hss,hx3⟩;obtain⟨am,cm,rfl,-,-⟩:=bu I4)
    have hsl:ss.length=(dU sg false us.length).length:=(by have:=congrArg List.length hss;simpa using this);have PZ:=aI hsl;have K3:=KW.ext' hx3;have g3:=hm.ad6 (Y:=λb=>b=w.heap.size\/(Value.slice am ss.length cm).ownBlock=some b) KW hx3 (λb hb=>by
     rcases hb with e|e
     .exact .inl e
     .exact .inr (I4.lt b e))
    have G3:=hgo.trans (tK.ext hx3 (s:=s1)) I6;have hb3:=kY hx3 jk;have hD3:=HD.out;rw[show(if 1<=1 then(dU sg true us.length).length else 0)=(dU sg true us.length).length from by simp,show(if 2<=1 then(dU sg false us.length).length else 0)=0 from by simp]at hD3;have HD3:=aI hD3;clear hm hm1 jk KW hgo HD hD3 c2 hsl;go_loopw [10,32] (λ_ jj wr=>∃(j:Nat) (s2:iK) (m2:Nat) (v:Value) (l:List Nat),jj=.int .i64 ((j:Nat):Int)/\j<=ss.length/\CE w0 wr pp h kb s2 m2/\tK pp h kb s w s2 wr/\GM w wr pp h kb s2 ab v0 v l0 l (λb=>b=w.heap.size\/(Value.slice am ss.length cm).ownBlock=some b)/\wr.heap[w.heap.size]?=some (.cells #[.pointer (some ⟨pp,0,none⟩),.map (some kb),.func (.func 44) #[] #[]] 127 (0,0))/\wr.ownsRow w.heap.size 9 1 (.slice am ss.length cm) ss.length (ss.map Value.string)/\Hid (Done s2.D us sg l0 l (dU sg true us.length).length j s.D.length m s2.D.length m2)) (λ_ jj _=>ss.length-(intOf jj).toNat)
    case atStart=>exact⟨0,s1,m1,_,_,rfl,az _,K3,G3,g3,hb3,jD I4 hzr,HD3⟩
    case round=>
     clear K3 G3 g3 hb3 HD3 I4;obtain⟨j,s2,m2,v,l,rfl,hj,KW,hgo,hm,jk,I4,HD⟩:=hrel;by_cases hjl:j<ss.length
     .have h3:((j:Nat):Int)<(ss.length:Int):=by omega
      have hjL:j<(dU sg false us.length).length:=(by have:=PZ.out;omega);obtain⟨gm,cm',he,-,-,hcell⟩:=gY I4 (by omega);simp only[gz,true_and]at he;obtain⟨rfl,rfl⟩:=he;have afZ:wr.cell? ⟨gm,j,none⟩=some (.string ss[j]):=(by rw[hcell j (by omega)];simp[hjl]);obtain⟨e,Ta,hTe,hlt⟩:=IA hT.1 hss hjl;obtain⟨av,cv,rfl,-,-⟩:=bu hm.r1;obtain⟨r1,r2,r3,r4⟩:=HD.out.room (e:=e) (by omega) hlt hsz hmz;have hus:=hT.1.small;have hlen:l.length<=100:=(by omega);have HX:=JM Ta hlt r1 r2;have b0:=bI wr w.heap.size 0 _ _ _ jk;have b1:=bI wr w.heap.size 1 _ _ _ jk;have b2:=bI wr w.heap.size 2 _ _ _ jk;have ca:=bI wr ab 1 _ _ _ hm.arr;simp only[fG,dQ,ek]at b0 b1 b2 ca;have hcall:∀W,Ext wr W->Calls prog 87 #[.agg #[.pointer (some ⟨pp,0,none⟩),.map (some kb),.func (.func 44) #[] #[]],.string ss[j]] W (uY w0 pp h kb s2 m2 (iJ us sg e) (lW us sg e) W):=λW hW=>ih w0 pp h kb s2 m2 _ _ _ W (by omega) hTe (KW.ext' hW) hG r1 r2
      clear hcell Ta r1 r2 r3 r4 hlt;go_upto_region 11 with fail
      refine mQ (λW=>W.cell? ⟨ab,1,none⟩=some (.slice av l.length cv)/\W.cell? ⟨w.heap.size,0,none⟩=some (.pointer (some ⟨pp,0,none⟩))/\W.cell? ⟨w.heap.size,1,none⟩=some (.map (some kb))/\W.cell? ⟨w.heap.size,2,none⟩=some (.func (.func 44) #[] #[])) [9,10] GX ⟨ca,b0,b1,b2⟩ (λai aa=>?_);(refine bg 0 ai aa ?_;refine bg 1 ai aa ?_;refine bg 2 ai aa ?_;refine bg 3 ai aa ?_;refine bg 4 ai aa ?_;refine bg 5 ai aa ?_);(refine kS ai (i:=6) λK hK=>?_;go_simp);refine(hcall _ (dz ⟨1,rfl⟩)).mono ?_;rintro e4 w4 ⟨s4,m4,i,rfl,K4,G4,hi4,hc4,hv4,hs4,Af⟩;have hxd:Ext wr (wr.drewN 1):=dz ⟨1,rfl⟩;obtain⟨gd,Pp⟩:=hm.go (tK.ext hxd);obtain⟨g4,hX4⟩:=gd.go G4;have rz:=((hX4 _ (.inl rfl)).trans (Pp _ (.inl rfl))).trans jk;have ZV:=Ay I4 (λb hb=>(hX4 b (.inr hb)).trans (Pp b (.inr hb)));have ll:=(hgo.trans (tK.ext hxd (s:=s2)) I6).trans G4 I6;have d0:=bI w4 w.heap.size 0 _ _ _ rz;have d1:=bI w4 w.heap.size 1 _ _ _ rz;have d2:=bI w4 w.heap.size 2 _ _ _ rz;have da:=bI w4 ab 1 _ _ _ g4.arr;simp only[fG,dQ,ek]at d0 d1 d2 da;(refine hK.out _ _ (λ_=>?_) ?_)
      .exact⟨da,d0,d1,d2⟩
      clear hK K;(try simp only[nP]);(refine kS ai (i:=7) λK hK=>?_;go_simp);(refine hK.out _ _ (λ_=>?_) ?_)
      .exact⟨aQ da _,aQ d0 _,aQ d1 _,aQ d2 _⟩
      clear hK K;(try simp only[nP]);refine kS ai (i:=8) λK hK=>?_
      refine gu rfl (.tmp 39) (.tmp 43) 41 rfl w.heap.size 3 i0 (.int .i64 0) 1 8 underlying41 hi0 hz0 hz1 hz2 rfl (by decide) (.slice av l.length cv) l.length _ rfl (g4.r1.alloc _) _ 1 _ [.int .i64 ((i:Nat):Int)] rfl rfl (.inr ⟨_,rfl,dA (bY _ _ _)⟩) one_cell (by unfold maxLen;omega) (by omega) (by rw[eX];have:=ll.keep.size;omega) ?_;intro v9 w9 Vt Lv Z5;obtain⟨x9,y9,rfl,-,-⟩:=bu Vt;have yG:Ext w4 (w4.alloc (.cells #[.int .i64 ((i:Nat):Int)] 3)):=bJ (fJ _ _) _;obtain⟨gp,Ll,hX9,ca9,cf9⟩:=g4.Hm (i:=i) yG yG.size K4 Lv Vt (by simp) (by simp[bV]) Z5;have YW:w9.heap[w.heap.size]?=some (.cells #[.pointer (some ⟨pp,0,none⟩),.map (some kb),.func (.func 44) #[] #[]] 127 (0,0)):=((gN Lv).block _ (aJ (bq rz) yG.size) (λe=>(g4.qw _ (.inl rfl)).2.2.1 e)).trans (kY yG rz);have e0:=bI w9 w.heap.size 0 _ _ _ YW;have e1:=bI w9 w.heap.size 1 _ _ _ YW;have e2:=bI w9 w.heap.size 2 _ _ _ YW;simp only[fG,dQ,ek]at e0 e1 e2;have HDN:Hid (Done s4.D us sg l0 (l++[i]) (dU sg true us.length).length (j+1) s.D.length m s4.D.length m4):=aI (by
       obtain⟨E,hE⟩:=G4.more;have hw:=K4.pool.good.wf;rw[hE]at hw hi4 hv4 hs4 ⊢;exact HD.out.Hm KW.pool.good.wf hw HX.out.1 hi4 hv4 HX.out.2.1 hs4 Af)
      have K9:=aI (K4.side Ll (λb hb=>by
       rcases hb with e|e
       .exact(g4.a1 b e).1
       .rw[e];exact g4.UF) (λb hb=>by
       have hz0:=KA.ext.size;rcases hb with e|e
       .have:=(g4.r1.lt b e).1;omega
       .have:=g4.X9;omega))
      have G9:=aI (ll.side Ll (λb hb=>by
       rcases hb with e|e
       .exact(g4.r1.lt b e).1
       .have:=g4.X9;omega))
      have aao:=(hX9 _ (.inl rfl)).trans rz;have Sz:=Ay ZV (λb hb=>hX9 b (.inr hb));have GP:=aI gp;(refine hK.out _ _ (λ_=>?_) ?_)
      .exact⟨ca9,e0,e1,e2⟩
      clear hK K;(try simp only[nP]);refine mM ai [9,10] [_,_] ?_;clear ai aa da d0 d1 d2 gd g4 gp Ll hX9 Pp hX4 hm hgo ll hcall e0 e1 e2 K4 G4 hc4 hv4 hs4 Af KW;go_wp2
      go_roundw
      case rel=>exact⟨j+1,s4,m4,_,l++[i],by go_num,by omega,K9.out,G9.out,GP.out,aao,Sz,HDN⟩
      case measure=>simp[intOf];omega
     .have h3:¬(((j:Nat):Int)<(ss.length:Int)):=by omega
      have Xi:j=ss.length:=(by omega);subst Xi;have hm2:=hm.mono (Y:=λb=>b=w.heap.size) (λb hb=>.inl hb);clear hm I4;go_wp2
      go_roundw
      case rel=>exact⟨2,s2,m2,_,_,_,_,rfl,by omega,KW,hgo,hm2,jk,aI (by have:=HD.out;rw[PZ.out]at this;simpa using this)⟩
      case measure=>simp[intOf]
   .have hD3:=HD.out
    rw[show(if 1<=2 then(dU sg true us.length).length else 0)=(dU sg true us.length).length from by simp,show(if 2<=2 then(dU sg false us.length).length else 0)=(dU sg false us.length).length from by simp]at hD3;have hus:=hT.1.small;have hn0:=hD3.nl;have hn1:=hD3.nr;have hre:=room_end (c:=l0.length+l1.length) (n:=us.length) (by omega);have hsd:=hD3.sd;have hsm:=hD3.sm;have hS1:s1.D.length+2<=s.D.length+2*kN us.length/\m1+1<=m+kN us.length:=by
     generalize (l0.length+l1.length)*kN (us.length-1)=X at *;omega
    have Ap:=aI hS1;have hroom1:s1.D.length+1<=900000:=(by omega);have hm1:m1<maxLen:=(by unfold maxLen;omega);have Nr:∀W,Ext wr W->Calls prog 125 #[.pointer (some ⟨pp,0,none⟩),v0,v1] W (zu pp h s1 l0 l1 W):=λW hW=>Bv pp h s1 v0 v1 l0 l1 W (KW.pool.ext hW) hroom1 hD3.kl.lt hD3.kr.lt (by omega) (by omega) (Ints.dX (bW hm.r0 hW) (by rw[aP];omega)) (Ints.dX (bW hm.r1 hW) (by rw[aP];omega))
    obtain⟨x0,y0,rfl,-,-⟩:=bu hm.r0;obtain⟨x1,y1,rfl,-,-⟩:=bu hm.r1;have HD3:=aI hD3;have b0:=bI wr w.heap.size 0 _ _ _ jk;have ca0:=bI wr ab 0 _ _ _ hm.arr;have ca1:=bI wr ab 1 _ _ _ hm.arr;simp only[fG,dQ,ek]at b0 ca0 ca1;clear hD3 HD hn0 hn1 hre hsd hsm hel hS1;go_upto_region 14 with fail
    refine mQ (λW=>W.cell? ⟨w.heap.size,0,none⟩=some (.pointer (some ⟨pp,0,none⟩))/\W.cell? ⟨ab,0,none⟩=some (.slice x0 l0.length y0)/\W.cell? ⟨ab,1,none⟩=some (.slice x1 l1.length y1)) [10] Kb ⟨b0,ca0,ca1⟩ (λai aa=>?_);(refine bg 0 ai aa ?_;refine bg 1 ai aa ?_;refine bg 2 ai aa ?_;refine bg 3 ai aa ?_;refine bg 4 ai aa ?_;refine bg 5 ai aa ?_;refine bg 6 ai aa ?_;refine bg 7 ai aa ?_);(refine kS ai (i:=8) λK hK=>?_;go_simp);refine(Nr _ (dz ⟨1,rfl⟩)).mono ?_;rintro e5 w5 ⟨s5,f,rfl,k5,p5,c5⟩;have hxd:Ext wr (wr.drewN 1):=dz ⟨1,rfl⟩;obtain⟨gd,Pp⟩:=hm.go (tK.ext hxd);obtain⟨g5,YY⟩:=gd.go (tK.pool (kb:=kb) k5);have ry:=((YY _ rfl).trans (Pp _ rfl)).trans jk;have d0:=bI w5 w.heap.size 0 _ _ _ ry;have da0:=bI w5 ab 0 _ _ _ g5.arr;have da1:=bI w5 ab 1 _ _ _ g5.arr;simp only[fG,dQ,ek]at d0 da0 da1;(refine hK.out _ _ (λ_=>?_) ?_)
    .exact⟨d0,da0,da1⟩
    clear hK K;(try simp only[nP]);have hf5:f<s5.D.length:=p5.lt;have Sr:s5.D.length+miss (f+1) s5.cn<=900000:=by
     have h2:s5.D.length<=s1.D.length+1:=by
      rcases p5.2 with e|e
      .rw[e];omega
      .rw[e];simp
     have h1:miss (f+1) s5.cn<=1:=Ie (f:=f) λx hx hxf=>by
      rw[c5];exact KW.all x (by omega)
     have:=Ap.out;omega
    (refine kS ai (i:=9) λK hK=>?_;go_simp);refine(Bi pp h s5 f w5 k5.pool hf5 Sr).mono ?_;rintro e6 w6 ⟨s6,j,rfl,k6,agY,hG6⟩;obtain⟨g6,hX6⟩:=g5.go (tK.pool (kb:=kb) k6);have YU:=(hX6 _ rfl).trans ry;have q0:=bI w6 w.heap.size 0 _ _ _ YU;have q1:=bI w6 w.heap.size 1 _ _ _ YU;have qa0:=bI w6 ab 0 _ _ _ g6.arr;have qa1:=bI w6 ab 1 _ _ _ g6.arr;simp only[fG,dQ,ek]at q0 q1 qa0 qa1;(refine hK.out _ _ (λ_=>?_) ?_)
    .exact⟨q0,qa0,qa1⟩
    clear hK K;(try simp only[nP]);refine mM ai [10] [_] ?_;obtain⟨K6,G6,s61,s62,s63,s64⟩:=step_done (KW.ext' hxd) k5 p5 c5 k6 agY hG6;have hev:=s64.trans (RX hT.1 KW.pool.good.wf k5.pool.good.wf HD3.out.kl HD3.out.kr HD3.out.nl HD3.out.nr p5);obtain⟨fk6,LF,hO6⟩:=id K6.kn;have HF:=JM s61 s62 s63 hev;clear ai aa d0 da0 da1 q0 qa0 qa1 b0 ca0 ca1 Nr gd g5 g6 Pp YY hX6 hm s61 s62 s63 s64 hev jk ry Sr hroom1;go_wp2_with (at_mapUpdate;refine iO rfl _ _ _ 125 rfl 9 3 BM underlying125 kb m1 fk6 rfl LF hm1 (.string sb) (.int .i64 ((j:Nat):Int)) rfl rfl hkey ?_;intro w7 Qk zS)
    go_ret
    exact⟨s6,m1+1,j,rfl,K6.learn Qk zS (hO6.add hT HF.out.2.1 HF.out.2.2.1 HF.out.2.2.2),((hgo.trans (tK.ext hxd (s:=s1)) I6).trans G6 I6).learn zS,HF.out.2.1,HF.out.2.2.1,HF.out.2.2.2,by have:=HF.out.1;have:=Ap.out;omega,by have:=Ap.out;omega⟩
