/-
  Contracts of the reference's l21Is and l1Least. (3 texts.)
-/
import Derived.Test.YteknjeohbcgpdaaGreatDoorK15
set_option maxRecDepth 100000
namespace Go.Proofs.YteknjeohbcgpdaaGreatDoor
open Tryz
section
open Go.RowKit
open bO (fw GB fD Cs)
variable {k:Nat} {ss:List ByteArray}
theorem uf:(prog.info? 4).map (λi=>(i.zero,i.size,i.bytes))=some (some (.bool false),1,1):=by kernel_rfl
theorem yD:(prog.info? 106).map (λi=>(i.zero,i.size,i.bytes))=some (some (.slice none 0 0),1,24):=by kernel_rfl
theorem TV{x:Bool}:∀u∈([Value.bool x]:List Value),u.oneCell'=true:=by
 intro u hu;simp at hu;subst hu;rfl
theorem mD{a:Option Addr}{n c:Nat}:∀u∈([Value.slice a n c]:List Value),u.oneCell'=true:=by
 intro u hu;simp at hu;subst hu;rfl
def xD(s:ByteArray):List Bool:=(ll s).map (· == 46)
def gK(ss:List ByteArray):Cl:=ss.map xD
theorem yU(s:ByteArray):(xD s).length=s.size:=by simp[xD,jA]
theorem Qg{s:ByteArray}(h:k<s.size):(xD s).take (k+1)=(xD s).take k++[(s[k]).toNat == 46]:=by
 rw[bg (by rw[yU];exact h)];congr 2;simp only[xD,fT,WI h];rw[jy,beq_iff_eq,beq_iff_eq,<-UInt8.toNat_inj];rfl
theorem Eb(ss:List ByteArray):(gK ss).length=ss.length:=by simp[gK]
theorem KR(h:k<ss.length):gK (ss.take (k+1))=gK (ss.take k)++[xD ss[k]]:=by
 unfold gK;rw[bg h,bG];rfl
theorem nL{hh ww:Nat}(g:GB (bd ss) hh ww):Sz (gK ss) hh ww:=by
 refine⟨by rw[Eb];exact oh g,λr hr=>?_⟩;obtain⟨s,hs,rfl⟩:=aH.1 hr;obtain⟨i,hi,rfl⟩:=aW.1 hs;rw[yU];exact og g hi
theorem Hr(ss:List ByteArray):lK (gK ss)=bO.fr (bd ss):=by
 funext r c;unfold lK jk bO.fr bO.at_ gK bd;rw[aj (l:=ss.map xD),aj (l:=ss.map ll),dm,dm];cases ss[r]? with
 |none=>simp
 |some s=>
  simp only[jP,bW,xD];rw[aj,aj,dm];cases (ll s)[c]? with
  |none=>rfl
  |some x=>rfl
theorem Gr.push{wo wr w5:World}{B:Nat}{ov rv v5:Value}{X:Obj}{sl:Nat->Value}{cl:Cl}{r:List Bool}(hG:Gr wo B ov sl cl)(hE:Ext wo wr)(hB:B<=wo.heap.size)
 (hrow:wr.ownsRow wo.heap.size 4 1 rv r.length (r.map Value.bool)) (ho:w5.ownsRow B 106 1 v5 (cl.length+1) ((List.range cl.length).map sl++[rv]))
 (hg:(wr.alloc X).grownBy w5 ov.ownBlock) (hl:kR (wr.alloc X) ov v5):∃sl',Gr w5 B v5 sl' (cl++[r]):=by
 have hk:dX (λb=>ov.ownBlock=some b) (wr.alloc X) w5:=⟨hg.os,hg.tape,hg.output,hg.size,λk hk hn=>hg.block k hk (λe=>hn e.symm)⟩;have hx:=bS (Below.refl wr.heap.size wr) X;have hz:(wr.alloc X).heap.size=wr.heap.size+1:=eQ _ _;have hzo:=hE.size;have hov:∀b,ov.ownBlock=some b->b<wo.heap.size:=λb hb=>(hG.lt (.inl hb)).2
 have hsl:∀j,j<cl.length->∀b,(sl j).ownBlock=some b->b<wo.heap.size:=λj hj b hb=>(hG.lt (.inr ⟨j,hj,hb⟩)).2
 have hrv:∀b,rv.ownBlock=some b->wo.heap.size<=b/\b<wr.heap.size:=λb hb=>hrow.lt b hb
 have hv5:∀b,v5.ownBlock=some b->ov.ownBlock=some b\/wr.heap.size+1<=b:=λb hb=>by
  rcases hl with e|⟨q,e,k⟩
  .exact .inl (by rw[<-e];exact hb)
  .rw[e]at hb;injection hb with hb;exact .inr (by omega)
 refine⟨_,Gr.snoc (x:=rv) (sl:=sl) (λj hj=>bI (bY (bY (hG.own j hj) hE) hx) hk λb hb e=>hG.R7 j hj b hb e) ho
  (jV (bI (bY hrow hx) hk λb hb e=>by have:=(hrv b hb).1;have:=hov b e;omega) hB) hG.ap (λj hj b hb e=>?_) (λj hj b hb e=>?_) (λb hb e=>?_)⟩
 .have:=hsl j hj b hb;have:=(hrv b e).1;omega
 .rcases hv5 b e with k|k
  .exact hG.R7 j hj b hb k
  .have:=hsl j hj b hb;omega
 .rcases hv5 b e with k|k
  .have:=hov b k;have:=(hrv b hb).1;omega
  .have:=(hrv b hb).2;omega
theorem beq46(n:Nat):(((n:Nat):Int)== 46)=(n == 46):=by rw[jy];simp;omega
set_option maxHeartbeats 4000000 in
theorem pW(v:Value)(ss:List ByteArray)(hh ww:Nat)(w:World)(h:Strs w v ss)(g:GB (bd ss) hh ww):
 Calls prog 75 #[.agg #[v]] w λe w'=>∃v' sl,e=.returned v'/\Gr w' w.heap.size v' sl (gK ss)/\Ext w w':=by
 obtain⟨a,cap,rfl,hcap,p8⟩:=h.open;obtain⟨i0,hi0,hz0,hz1,hz2⟩:=info_parts yD;obtain⟨i1,hi1,hy0,hy1,hy2⟩:=info_parts uf;have hn:=oh g;have h8:=g.h1;have w8:=g.w1;have hss:ss.length<=8:=by omega
 have GG:=aQ g;clear g h8 hn;have hxb:Ext w (w.alloc (.cells #[.slice a ss.length cap] 31)):=by go_grown
 have hbb:=heap_alloc_new w (.cells #[.slice a ss.length cap] 31);have hr0:=World.ownsRow_made (w.alloc (.cells #[.slice a ss.length cap] 31)) (base:=(w.alloc (.cells #[.slice a ss.length cap] 31)).heap.size) (e:=106) (size:=1) #[] 0 (ay _) (by decide) (by simp);have hx0:=bS (Below.refl (w.alloc (.cells #[.slice a ss.length cap] 31)).heap.size (w.alloc (.cells #[.slice a ss.length cap] 31))) (.cells #[] 106);have hzb:(w.alloc (.cells #[.slice a ss.length cap] 31)).heap.size=w.heap.size+1:=eQ _ _;rw[hzb]at hr0;go_enter Tryz.func75,Tryz.ntmps75
 go_wp2
 generalize w.alloc (.cells #[.slice a ss.length cap] 31)=W at *;have hpz:=bu hbb;go_loopw [3,4,5,6] (λov ii _ _ wr=>∃(i:Nat) (sl:Nat->Value),ii=.int .i64 ((i:Nat):Int)/\i<=ss.length/\Ext W wr/\Hid (Gr wr W.heap.size ov sl (gK (ss.take i)))) (λ_ ii _ _ _=>ss.length-(intOf ii).toNat)
 case atStart=>exact⟨0,_,rfl,aJ _,hx0,aQ (Gr.nil (by rw[hzb];exact hr0))⟩
 case round=>
  obtain⟨i,sl,rfl,hi,hx,HG⟩:=hrel;clear hr0 hx0;have hE:=ax hxb hx;have hbr:wr.heap[w.heap.size]?=some (.cells #[.slice a ss.length cap] 31 (0,0)):=(hx.block _ hpz).trans hbb;have c0:=cell_of_row wr w.heap.size 0 _ _ _ hbr;simp only[gE]at c0;by_cases hlt:i<ss.length
  .have h1:((i:Nat):Int)<((ss.length:Nat):Int):=by omega
   obtain⟨b,off,rfl,hc⟩:=(h.ext hE).at hlt;have HC:=aQ (hc i hlt);have hsz:ss[i].size<=8:=(by rw[og GG.out hlt];exact w8.2);have wH:=aQ (KR hlt);obtain⟨si,rU⟩:∃si:ByteArray,ss[i]=si:=⟨_,rfl⟩;rw[rU]at HC hsz wH;have fJ:=aQ hlt;have hr1:=World.ownsRow_made wr (base:=wr.heap.size) (e:=4) (size:=1) #[] 0 (ay _) (by decide) (by simp);have hx1:=bS (Below.refl wr.heap.size wr) (.cells #[] 4);have HX:=aQ hx;have HB:=aQ hbr;clear hc hx hE hbr rU hlt;go_wp2
   obtain⟨wo,hwo⟩:∃wo,wo=wr:=⟨_,rfl⟩;rw[<-hwo]at HG HX HB HC hr1 hx1 ⊢;clear c0;go_loopw [5,6] (λrv kk wr=>∃k:Nat,kk=.int .i64 ((k:Nat):Int)/\k<=si.size/\Ext wo wr/\wr.ownsRow wo.heap.size 4 1 rv k (((xD si).take k).map Value.bool)) (λ_ kk _=>si.size-(intOf kk).toNat)
   case atStart=>exact⟨0,rfl,aJ _,hx1,by simpa using hr1⟩
   case round=>
    clear hr1 hx1 hwo;obtain⟨k,rfl,hk,hx2,hro⟩:=hrel;have hbr:wr.heap[w.heap.size]?=some (.cells #[.slice (some ⟨b,off,none⟩) ss.length cap] 31 (0,0)):=(hx2.block _ (bu HB.out)).trans HB.out;have c0:=cell_of_row wr w.heap.size 0 _ _ _ hbr;simp only[gE]at c0;have ci:=(hx2.cell (lt_of_cell HC.out)).trans HC.out;have h1:((i:Nat):Int)<((ss.length:Nat):Int):=(by have:=fJ.out;omega);by_cases hkl:k<si.size
    .have h4:((k:Nat):Int)<((si.size:Nat):Int):=by omega
     obtain⟨ar,cr,rfl,hcr,_⟩:=bH hro;have HK:=aQ (Qg hkl);have Ey:=aQ hx2;clear hx2 hbr;go_wp2_with (at_builtin;refine dC rfl (.tmp 26) (.tmp 35) 106 rfl wo.heap.size 4 i1 (.bool false) 1 1 underlying106 hi1 hy0 hy1 hy2 rfl (by decide) (.slice ar k cr) k _ rfl (hro.alloc _) _ 1 _ [.bool ((((si[k]'hkl).toNat:Nat):Int)== 46)] rfl rfl (.inr ⟨_,rfl,dJ (dh _ _ _)⟩) TV (by unfold maxLen;omega) (by omega) (by rw[eQ];have:=Ey.out.size;omega) ?_;intro v5 w5 iT hg5 hl5)
     go_roundw
     case rel=>exact⟨k+1,by go_num,by omega,zS Ey.out hro hg5,by rw[HK.out,bG,<-beq46];exact iT⟩
     case measure=>simp[intOf];omega
    .have h4:¬(((k:Nat):Int)<((si.size:Nat):Int)):=by omega
     have hke:k=si.size:=(by omega);have Er:=aQ hke;have uh:=HG.out.ext hx2;obtain⟨ao,co,rfl,hco,_⟩:=uh.len;have hcl:(gK (ss.take i)).length<=8:=(by rw[Eb,dI];omega);obtain⟨ar,cr,rfl,hcr,_⟩:=bH hro;have Ey:=aQ hx2;have HG2:=aQ uh;have ae1:=uh.row;generalize hcn:(gK (ss.take i)).length=cn at *;clear hx2 hbr hke hkl uh;go_wp2_with (at_builtin;refine dC rfl (.tmp 37) (.tmp 39) 104 rfl W.heap.size 106 i0 (.slice none 0 0) 1 24 underlying104 hi0 hz0 hz1 hz2 rfl (by decide) (.slice ao cn co) cn _ rfl (ae1.alloc _) _ 1 _ [.slice ar k cr] rfl rfl (.inr ⟨_,rfl,dJ (dh _ _ _)⟩) mD (by unfold maxLen;omega) (by omega) (by rw[eQ];have:=Ey.out.size;have:=HX.out.size;omega) ?_;intro v5 w5 iT hg5 hl5)
     go_roundw
     case rel=>
      subst hcn;have ajl:wr.ownsRow wo.heap.size 4 1 (.slice ar k cr) (xD si).length ((xD si).map Value.bool):=by
       rw[yU,<-Er.out];have e:(xD si).take k=xD si:=bU (by rw[yU];have:=Er.out;omega);rw[e]at hro;exact hro
      obtain⟨sl',hS⟩:=Gr.push HG.out Ey.out HX.out.size ajl iT hg5 hl5;exact⟨i+1,sl',by go_num,fJ.out,dS (bS (ax HX.out Ey.out) _) hg5 (λq hq=>(HG.out.lt (.inl hq)).1),aQ (by rw[wH.out];exact hS)⟩
     case measure=>have:=fJ.out;simp[intOf];omega
  .have h1:¬(((i:Nat):Int)<((ss.length:Nat):Int)):=by omega
   have hie:i=ss.length:=(by omega);have Gq:=aQ hie;clear hie hlt;go_wp2
   go_ret
   refine⟨_,rfl,⟨sl,?_⟩,hE⟩;have:=HG.out;rw[Gq.out,dB]at this;exact this.lower (by omega)
end
section
open Go.RowKit
open bO (fw GB fD Cs)
variable {k:Nat} {cl:Cl}
def rO(r:List Bool):Nat:=r.countP (· == true)
def D8(cl:Cl):Nat:=(cl.map rO).sum
theorem KL{r:List Bool}(h:k<r.length):rO (r.take (k+1))=rO (r.take k)+if r[k]=true then 1 else 0:=by
 unfold rO;rw[bg h,List.countP_append];cases r[k] <;> simp
theorem Gj(h:k<cl.length):D8 (cl.take (k+1))=D8 (cl.take k)+rO cl[k]:=by
 unfold D8;rw[bg h,bG,List.sum_append];simp
theorem Zy(ss:List ByteArray):D8 (gK ss)=bO.gX (bd ss):=by
 unfold D8 bO.gX gK bd;rw[gM,gM];congr 1;apply df;intro s _;simp only[Function.comp_def,rO,xD,List.countP_map];congr 1;funext x;cases (x == 46)<;> rfl
theorem Gi(r:List Bool):rO r<=r.length:=List.countP_le_length
theorem Zx{hh ww:Nat}(s:Sz cl hh ww)(k:Nat):D8 (cl.take k)<=k*ww:=by
 induction k with
 |zero=>simp[D8]
 |succ k ih=>
  by_cases h:k<cl.length
  .rw[Gj h,uI]
   have:=Gi cl[k];rw[s.at h]at this;omega
  .rw[bU (by omega)]
   rw[bU (by omega)]at ih;rw[uI];omega
set_option maxHeartbeats 4000000 in
theorem BC(v:Value)(ss:List ByteArray)(hh ww:Nat)(w:World)(h:Strs w v ss)(g:GB (bd ss) hh ww):
 Calls prog 37 #[.agg #[v]] w λe w'=>e=.returned (.int .i64 ((bO.gX (bd ss):Nat):Int))/\Ext w w':=by
 obtain⟨a,cap,rfl,hcap,p8⟩:=h.open;have hxb:Ext w (w.alloc (.cells #[.slice a ss.length cap] 31)):=by go_grown
 have hbb:=heap_alloc_new w (.cells #[.slice a ss.length cap] 31);have uB:=aQ (nL g);have h8:=g.h1;have w8:=g.w1;go_enter Tryz.func37,Tryz.ntmps37
 go_wp2_with (go_at_call 75;refine(pW _ ss hh ww _ (h.ext hxb) g).mono ?_;rintro e w1 ⟨cv,sl,rfl,hG,hx1⟩;obtain⟨ac,cc,rfl,-,-⟩:=hG.len)
 have hE:=ax hxb hx1;have hln:(gK ss).length=hh:=uB.out.hgt;obtain⟨cl,hcl⟩:∃cl,cl=gK ss:=⟨_,rfl⟩;have HCN:=aQ (Zy ss);rw[<-hcl]at uB hG hln HCN ⊢;have HG:=aQ hG;have HE:=aQ hE;obtain⟨n,hn⟩:∃n,n=cl.length:=⟨_,rfl⟩;rw[<-hn];have hn8:n<=8:=by omega
 have HN:=aQ hn;clear hcl hG hE hx1 hxb hbb hln hn;generalize w1=W at *;go_loopw [3,5,6] (λnv ii _ wr=>∃i:Nat,ii=.int .i64 ((i:Nat):Int)/\i<=n/\nv=.int .i64 ((D8 (cl.take i):Nat):Int)/\W=wr) (λ_ ii _ _=>n-(intOf ii).toNat)
 case atStart=>exact⟨0,rfl,aJ _,by simp[D8],rfl⟩
 case round=>
  obtain⟨i,rfl,hi,rfl,rfl⟩:=hrel;have hC8:D8 (cl.take i)<=64:=by
   have:=Zx uB.out i;have:=gu (show i<=8 by omega) w8.2;omega
  by_cases hlt:i<n
  .have h1:((i:Nat):Int)<((n:Nat):Int):=by omega
   have sJ:i<cl.length:=(by have:=HN.out;omega);obtain⟨gt,ct,et,hct⟩:=HG.out.top sJ;simp only[Value.slice.injEq]at et;obtain⟨rfl,-,rfl⟩:=et;obtain⟨ar,cr,er,hcr⟩:=HG.out.Yk sJ;have hw:cl[i].length=ww:=uB.out.at sJ;rw[er,hw]at hct;rw[hw]at er;have HER:=aQ er;have HT:=aQ (Gj sJ);obtain⟨ri,eri⟩:∃ri:List Bool,cl[i]=ri:=⟨_,rfl⟩;rw[eri]at HT hw;have aac:=aQ eri;have HW:=aQ hw;have HLI:=aQ sJ;clear er eri hw;generalize hcv:D8 (cl.take i)=c0 at *;go_wp2
   go_loopw [3,6] (λnv kk wr=>∃k:Nat,kk=.int .i64 ((k:Nat):Int)/\k<=ww/\nv=.int .i64 ((c0+rO (ri.take k):Nat):Int)/\W=wr) (λ_ kk _=>ww-(intOf kk).toNat)
   case atStart=>exact⟨0,rfl,aJ _,by simp[rO],rfl⟩
   case round=>
    obtain⟨k,rfl,hk,rfl,rfl⟩:=hrel;have hR8:rO (ri.take k)<=8:=(by have:=Gi (ri.take k);rw[dI]at this;omega);by_cases hkl:k<ww
    .have h4:((k:Nat):Int)<((ww:Nat):Int):=by omega
     have hkr:k<ri.length:=(by have:=HW.out;omega);have hlen:k<(cl[i]'HLI.out).length:=(by rw[aac.out];exact hkr);obtain⟨g2,c2,e2,hb,-⟩:=HG.out.cell HLI.out hlen;rw[HER.out]at e2;simp only[Value.slice.injEq]at e2;obtain⟨rfl,-,rfl⟩:=e2;have hbv:(cl[i]'HLI.out)[k]=ri[k]:=(by congr 1);rw[hbv]at hb;have Xg:=aQ (KL hkr);cases hbk:ri[k]with
     |true=>
      rw[hbk]at hb Xg;clear hbk hbv;go_wp2
      go_roundw
      case rel=>exact⟨k+1,by go_num,by omega,by rw[Xg.out,if_pos rfl];go_num,trivial⟩
      case measure=>simp[intOf];omega
     |false=>
      rw[hbk]at hb Xg;clear hbk hbv;go_wp2
      go_roundw
      case rel=>exact⟨k+1,by go_num,by omega,by rw[Xg.out,if_neg (by simp)];go_num,trivial⟩
      case measure=>simp[intOf];omega
    .have h4:¬(((k:Nat):Int)<((ww:Nat):Int)):=by omega
     have hke:k=ww:=(by omega);have Er:=aQ hke;clear hke hkl;go_wp2
     go_roundw
     case rel=>exact⟨i+1,by go_num,by omega,by rw[HT.out,<-hcv,show ri.take k=ri from bU (by have:=HW.out;have:=Er.out;omega)],trivial⟩
     case measure=>simp[intOf];omega
  .have h1:¬(((i:Nat):Int)<((n:Nat):Int)):=by omega
   have hie:i=n:=(by omega);have Gq:=aQ hie;clear hie hlt;go_wp2
   go_ret
   exact⟨by rw[Gq.out,HN.out,dB,HCN.out];rfl,HE.out⟩
end
section
open Go.RowKit
open bO (fw GB fD Cs)
def EK(cl:Cl)(hh ww:Nat)(i k:Int):Bool:=decide (0<=i/\i<hh) && decide (0<=k/\k<ww) && jk cl i.toNat k.toNat
theorem Cz(i:Int)(n:Nat):CB i 0 ((n:Int)-1)=decide (0<=i/\i<(n:Int)):=by
 unfold CB;rw[jy];simp;omega
set_option maxHeartbeats 4000000 in
theorem Av(v:Value)(sl:Nat->Value)(cl:Cl)(hh ww B:Nat)(i k:Int)(w:World)(hG:Gr w B v sl cl)(s:Sz cl hh ww)(h1:1<=hh/\hh<=8)(w1:1<=ww/\ww<=8):
 Calls prog 172 #[v,.int .i64 i,.int .i64 k] w λe w'=>e=.returned (.bool (EK cl hh ww i k))/\RD w w':=by
 have hl:=s.hgt;have hn0:0<cl.length:=by omega
 obtain⟨gt,ct,rfl,hc0⟩:=hG.top hn0;obtain⟨ar,cr,er,-⟩:=hG.Yk hn0;rw[er,s.at hn0]at hc0;rw[hl]at hG ⊢;by_cases hi:0<=i/\i<(hh:Int)
 .have e1:CB i 0 ((hh:Int)-1)=true:=by rw[Cz];exact decide_eq_true hi
  by_cases hk:0<=k/\k<(ww:Int)
  .have e2:CB k 0 ((ww:Int)-1)=true:=by rw[Cz];exact decide_eq_true hk
   obtain⟨iN,rfl⟩:∃iN:Nat,i=(iN:Int):=⟨i.toNat,by omega⟩;obtain⟨kN,rfl⟩:∃kN:Nat,k=(kN:Int):=⟨k.toNat,by omega⟩;have sJ:iN<cl.length:=(by omega);have hlk:kN<cl[iN].length:=(by rw[s.at sJ];omega);obtain⟨g3,c3,e3,hci⟩:=hG.top sJ;simp only[Value.slice.injEq,bN,Addr.mk.injEq,and_true]at e3;obtain⟨rfl,-,rfl⟩:=e3;obtain⟨g4,c4,e4,hb,-⟩:=hG.cell sJ hlk;rw[e4,s.at sJ]at hci;have hv:EK cl hh ww (iN:Int) (kN:Int)=cl[iN][kN]:=by
    unfold EK;rw[decide_eq_true hi,decide_eq_true hk];simp only[xB,dP];exact Ht sJ hlk
   rw[hv];have hil:((iN:Nat):Int)<((hh:Nat):Int):=(by omega);have hkl:((kN:Nat):Int)<((ww:Nat):Int):=(by omega);generalize cl[iN][kN]=bv at *;clear hv hlk sJ e4 er hn0 hG s hl hi hk;go_enter Tryz.func172,Tryz.ntmps172
   go_wp2_with (go_at_call 60;refine(jC _ _ _ _).mono ?_;rintro e w2 ⟨he,n,rfl⟩;first|(rw[e1]at he;subst he)|(rw[e2]at he;subst he))
   go_ret
   exact⟨rfl,(by first|exact xQ _|exact Db _ _|exact Da _ _ _|exact C9 _ _ _ _)⟩
  .have e2:CB k 0 ((ww:Int)-1)=false:=by rw[Cz];exact decide_eq_false hk
   have hv:EK cl hh ww i k=false:=(by unfold EK;rw[decide_eq_false hk];simp);rw[hv];clear hv hn0 hG s hl hi hk er;go_enter Tryz.func172,Tryz.ntmps172
   go_wp2_with (go_at_call 60;refine(jC _ _ _ _).mono ?_;rintro e w2 ⟨he,n,rfl⟩;first|(rw[e1]at he;subst he)|(rw[e2]at he;subst he))
   go_ret
   exact⟨rfl,(by first|exact xQ _|exact Db _ _|exact Da _ _ _|exact C9 _ _ _ _)⟩
 .have e1:CB i 0 ((hh:Int)-1)=false:=by rw[Cz];exact decide_eq_false hi
  have hv:EK cl hh ww i k=false:=by unfold EK;rw[decide_eq_false hi];simp
  rw[hv];clear hv hn0 hG s hl hi er;go_enter Tryz.func172,Tryz.ntmps172
  go_wp2_with (go_at_call 60;refine(jC _ _ _ _).mono ?_;rintro e w2 ⟨he,n,rfl⟩;rw[e1]at he;subst he)
  go_ret
  exact⟨rfl,(by first|exact xQ _|exact Db _ _|exact Da _ _ _|exact C9 _ _ _ _)⟩
theorem JZ(a b:Int)(w:World):Calls prog 159 #[.int .i64 a,.int .i64 b] w λe w'=>e=.returned (.int .i64 (if a<b then a else b))/\w'=w:=by
 by_cases h:a<b
 .rw[if_pos h]
  go_enter Tryz.func159,Tryz.ntmps159
  go_wp2
  go_ret
  trivial
 .rw[if_neg h]
  go_enter Tryz.func159,Tryz.ntmps159
  go_wp2
  go_ret
  trivial
end
end Go.Proofs.YteknjeohbcgpdaaGreatDoor