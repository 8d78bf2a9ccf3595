/- 22 -/
import Derived.Test.YtplgooajigigkaaGreatDoorQ16
import Derived.Test.YtplgooajigigkaaGreatDoorQ21
import Derived.Lib.AtoiErrMem
set_option maxRecDepth 100000
set_option maxHeartbeats 4000000
namespace Go.Proofs.YtplgooajigigkaaGreatDoor
open Tryz
section
open Go.RowKit
def EA(w:World):Prop:=Lib.TabBelow prog w.heap.size w "internal/strconv.uint64pow10" .u64 Lib.pow10Tab
theorem EA.ext{w w':World}(h:EA w)(hx:Ext w w'):EA w':=λw2 h2=>h w2 (ah hx h2)
theorem R7(n:Int)(h1:-1<=n)(h2:n<10):Lib.itoa n=oU n:=by
 have:n=-1\/n=0\/n=1\/n=2\/n=3\/n=4\/n=5\/n=6\/n=7\/n=8\/n=9:=by omega
 rcases this with rfl|rfl|rfl|rfl|rfl|rfl|rfl|rfl|rfl|rfl|rfl <;> (unfold Lib.itoa Lib.decDigits oU;rfl)
theorem UU(n:Int)(h1:-1<=n)(h2:n<10)(w:World)(hT:EA w):Calls prog 88 #[.int .i64 n] w λe w'=>e=.returned (.string (vR n))/\Ext w w':=by
 refine(Tryz.strconv_Itoa n (by omega) (by omega) w hT.here).mono ?_;rintro e w' ⟨rfl,k,os,rfl⟩;exact⟨by rw[R7 n h1 h2];rfl,Lib.below_grow _ w (ax _) k os⟩
theorem Bu(n:Int):(oU n).length<=2:=by unfold oU;split <;> simp
theorem Ar(c:UInt8):∀us:List Int,(txt c us).length<=3*us.length
 |[]=>by simp[txt]
 |u :: us=>by have:=Ar c us;have:=Bu u;simp[txt];omega
theorem QJ(c:UInt8)(us:List Int)(k:Nat)(h:k<us.length):txt c (us.take (k+1))=txt c (us.take k)++(c :: oU (dD us k)):=by
 rw[aW h,Gv,<-kW h]
theorem Gz(v:Value)(us:List Int)(sb:ByteArray)(w:World)(hv:Ints w v us)(g:GT us sb.data.toList)(hT:EA w):
 Calls prog 43 #[.agg #[v,.string sb]] w λe w'=>∃so,e=.returned (.string so)/\so.data.toList=sb.data.toList++txt 32 us/\Ext w w':=by
 obtain⟨a,cap,rfl,hcap,yH,hcells⟩:=id hv;have Pj:=g.small;have hxb:Ext w (w.alloc (.cells #[.slice a us.length cap,.string sb] 43)):=by go_grown
 have hs8:sb.size<=8:=by have:=g.len;have e:sb.size=sb.data.size:=rfl;simp at this;omega
 go_enter Tryz.func43,Tryz.ntmps43
 go_wp2
 generalize w.alloc (.cells #[.slice a us.length cap,.string sb] 43)=W at *;go_loopw [3,5,11] (λsv _ ii wr=>∃k so,k<=us.length/\ii=.int .i64 ((k:Nat):Int)/\sv=.string so/\so.data.toList=sb.data.toList++txt 32 (us.take k)/\Ext w wr) (λ_ _ ii _=>us.length-(intOf ii).toNat)
 case atStart=>exact⟨0,sb,az _,rfl,rfl,by simp[txt],hxb⟩
 case round=>
  clear hxb;obtain⟨k,so,hk,rfl,rfl,hso,hE⟩:=hrel;by_cases hlt:k<us.length
  .have h1:((k:Nat):Int)<((us.length:Nat):Int):=by omega
   obtain⟨b,off,rfl,hcell⟩:=hcells (by omega);have hck:=hcell k hlt;have lK:=dP hE hck;have hu:=g.up k hlt;have af0:so.size<=8+3*8:=by
    have e:so.size=so.data.size:=rfl;have:=congrArg List.length hso;have h3:=Ar 32 (us.take k);rw[aK]at this;rw[gZ]at h3;have e2:sb.size=sb.data.size:=rfl;simp at this;omega
   have hnb:(vR (dD us k)).size<=2:=(by have:=Bu (dD us k);unfold vR;simpa [ByteArray.size]using this);have HC1:=λW:World=>run_string_add_sum (P:=prog) (w:=W) ⟨#[32]⟩ (vR (dD us k)) (by have:(⟨#[32]⟩:ByteArray).size=1:=rfl;omega)
   have hs3:((⟨#[32]⟩:ByteArray)++vR (dD us k)).size<=3:=(by rw[ig];have:(⟨#[32]⟩:ByteArray).size=1:=rfl;omega);have HC2:=λW:World=>run_string_add_sum (P:=prog) (w:=W) so ((⟨#[32]⟩:ByteArray)++vR (dD us k)) (by omega)
   have HS:Hid ((so++((⟨#[32]⟩:ByteArray)++vR (dD us k))).data.toList=sb.data.toList++txt 32 (us.take (k+1))):=by
    show _=_;rw[QJ _ _ _ hlt,kG,lU,hso,kG,lU,DX,dh];rfl
   clear hs3 hnb af0 hso;go_wp2_with (go_at_call 88;refine(UU _ (by omega) (by omega) _ (hT.ext hE)).mono ?_;rintro e w1 ⟨rfl,hx1⟩)
   go_roundw
   case rel=>exact⟨k+1,_,by omega,by go_num,rfl,HS.out,ah hE hx1⟩
   case measure=>simp[intOf];omega
  .have h1:¬(((k:Nat):Int)<((us.length:Nat):Int)):=by omega
   have hke:k=us.length:=(by omega);go_wp2
   go_ret
   exact⟨so,rfl,by rw[hso,hke,cO],hE⟩
end
section
open Go.RowKit
variable {c:UInt8} {a s:List UInt8} {us:List Int}
theorem wC{c:UInt8}:∀{a:List UInt8} (r:List UInt8),c ∉ a->Lib.indexByte (a++c :: r) c=(a.length:Int)
 |[],r,_=>by simp[Lib.indexByte]
 |b :: a,r,h=>by
  have hb:(b == c)=false:=by rw[beq_eq_false_iff_ne];rintro rfl;exact h (List.mem_cons_self ..)
  have ih:=wC (a:=a) r (λe=>h (List.mem_cons_of_mem _ e));rw[List.cons_append,Lib.indexByte,hb,ih];have:((a.length:Int)== -1)=false:=by simp
  simp[this]
theorem GI(h:c ∉ a):Lib.splitK [c] 0 (Lib.count a [c]) a=[a]:=by
 rw[Lib.count_one,List.count_eq_zero.2 h];rfl
theorem GJ{r:List UInt8}(h:c ∉ a):Lib.splitK [c] 0 (Lib.count (a++c :: r) [c]) (a++c :: r)=a :: Lib.splitK [c] 0 (Lib.count r [c]) r:=by
 have e:Lib.count (a++c :: r) [c]=Lib.count r [c]+1:=by
  rw[Lib.count_one,Lib.count_one,List.count_append,List.count_eq_zero.2 h,List.count_cons_self];omega
 rw[e,Lib.splitK,Lib.index_one,wC r h];have:((a.length:Int)== -1)=false:=by simp
 rw[this];simp
theorem DW(u:Int)(h1:-1<=u)(h2:u<10):(32:UInt8) ∉ oU u:=by
 have:u=-1\/u=0\/u=1\/u=2\/u=3\/u=4\/u=5\/u=6\/u=7\/u=8\/u=9:=by omega
 rcases this with rfl|rfl|rfl|rfl|rfl|rfl|rfl|rfl|rfl|rfl|rfl <;> decide
theorem Du:∀{us:List Int} {a:List UInt8},(32:UInt8) ∉ a->(∀u,u∈us->-1<=u/\u<10)->Lib.splitK [32] 0 (Lib.count (a++txt 32 us) [32]) (a++txt 32 us)=a :: us.map oU
 |[],a,h,_=>by simp only[txt,gK,List.map_nil];exact GI h
 |u :: us,a,h,hu=>by
  have e:a++txt 32 (u :: us)=a++32 :: (oU u++txt 32 us):=by simp[txt]
  rw[e,GJ h,Du (DW u (hu u (by simp)).1 (hu u (by simp)).2) (λv hv=>hu v (by simp[hv]))];rfl
theorem PH(h:(32:UInt8) ∉ a)(hu:∀u,u∈us->-1<=u/\u<10):Lib.count (a++txt 32 us) [32]=us.length:=by
 induction us generalizing a with
 |nil=>rw[Lib.count_one,txt,gK,List.count_eq_zero.2 h];rfl
 |cons u us ih=>
  have e:a++txt 32 (u :: us)=a++32 :: (oU u++txt 32 us):=by simp[txt]
  have h3:=ih (a:=oU u) (DW u (hu u (by simp)).1 (hu u (by simp)).2) (λv hv=>hu v (by simp[hv]));rw[Lib.count_one]at h3 ⊢;rw[e,List.count_append,List.count_eq_zero.2 h,List.count_cons_self,h3];simp
theorem GT.ab9(g:GT us s):(32:UInt8) ∉ s:=λh=>by rcases g.sign _ h with h|h <;> cases h
theorem GT.ups(g:GT us s):∀u,u∈us->-1<=u/\u<10:=λu hu=>by
 obtain⟨i,hi,rfl⟩:=aH.1 hu;have:=g.up i hi;have:=g.small;rw[kW hi]at *;omega
theorem J6{sg:List UInt8}{s:ByteArray}(g:GT us sg)(hs:s.data.toList=sg++txt 32 us):
 Lib.countB s ⟨#[32]⟩=us.length/\(Lib.splitB ⟨#[32]⟩ 0 (Lib.countB s ⟨#[32]⟩) s).map (·.data.toList)=sg :: us.map oU:=by
 have hc:Lib.countB s ⟨#[32]⟩=Lib.count (sg++txt 32 us) [32]:=by unfold Lib.countB;rw[hs]
 refine⟨by rw[hc,PH g.ab9 g.ups],?_⟩;rw[Lib.splitB_data,hs,hc];exact Du g.ab9 g.ups
theorem Ur(u:Int)(h1:-1<=u)(h2:u<10):Lib.atoi (oU u)=some u:=by
 have:u=-1\/u=0\/u=1\/u=2\/u=3\/u=4\/u=5\/u=6\/u=7\/u=8\/u=9:=by omega
 rcases this with rfl|rfl|rfl|rfl|rfl|rfl|rfl|rfl|rfl|rfl|rfl <;> decide
end
section
open Go.RowKit
variable {w wr w1:World} {ws:Array Value} {vo:Value} {ou:List Int} {so:ByteArray}
def Qp(w:World):Prop:=EA w/\∃m,w.cell? ⟨3,0,none⟩=some (.int .i64 m)
theorem Qp.ext{w w':World}(h:Qp w)(hx:Ext w w'):Qp w':=by
 obtain⟨h1,m,h2⟩:=h;exact⟨h1.ext hx,m,dP hx h2⟩
structure TO(w wr:World)(ws:Array Value)(vo:Value)(ou:List Int)(so:ByteArray):Prop where
 ext:Ext w wr
 res:wr.heap[w.heap.size]?=some (.cells #[.slice none 0 0,.string ⟨#[]⟩] 43 (0,0))
 row:wr.heap[w.heap.size+1]?=some (.cells ws 9 (0,0))
 out:wr.heap[w.heap.size+1+1]?=some (.cells #[vo,.string so] 43 (0,0))
 ou:wr.ownsRow w.heap.size 3 1 vo ou.length (ou.map (Value.int .i64))
 sep:∀b,vo.ownBlock=some b->w.heap.size+1+1<b
theorem TO.keep(h:TO w wr ws vo ou so)(hx:Ext wr w1):TO w w1 ws vo ou so:=
 ⟨ah h.ext hx,kY hx h.res,kY hx h.row,kY hx h.out,bW h.ou hx,h.sep⟩
theorem TO.put{Gt:Value}{X:Obj}{x:Int}(h:TO w wr ws vo ou so)
 (ho:w1.ownsRow w.heap.size 3 1 Gt (ou.length+1) (ou.map (Value.int .i64)++[.int .i64 x])) (hg:(wr.alloc X).grownBy w1 vo.ownBlock) (hl:lY (wr.alloc X) vo Gt):
 TO w (w1.setCell ⟨w.heap.size+1+1,0,none⟩ Gt) ws Gt (ou++[x]) so/\w1.cell? ⟨w.heap.size+1+1,0,none⟩=some vo/\w1.frozen? ⟨w.heap.size+1+1,0,none⟩=false:=by
 have hz:=bq h.res;have z1:=bq h.row;have z2:=bq h.out;have zz:=hg.size;rw[eX]at zz;have hbk:∀k,k<w.heap.size+1+1+1->w1.heap[k]?=wr.heap[k]?:=λk hk=>by
  rw[hg.block k (by rw[eX];omega) (λe=>by have:=h.sep k e.symm;omega),gI _ _ _ (by omega)]
 have zP:∀b,Gt.ownBlock=some b->w.heap.size+1+1<b:=λb hb=>by
  rcases hl with h1|⟨g,h1,h2⟩
  .exact h.sep b (by rw[<-h1];exact hb)
  .rw[h1]at hb;injection hb with hb;subst hb;rw[eX]at h2;omega
 have hx:w1.heap[w.heap.size+1+1]?=some (.cells #[vo,.string so] 43 (0,0)):=by rw[hbk _ (by omega)];exact h.out
 refine⟨?_,bI w1 (w.heap.size+1+1) 0 _ _ _ hx,iW w1 (w.heap.size+1+1) 0 _ _ hx⟩;refine⟨oG (dw (bJ h.ext X) hg (λk hk=>by have:=h.sep k hk;omega)) (w.heap.size+1+1) 0 _,?_,?_,?_,?_,zP⟩
 .rw[jH _ _ _ _ (by simp <;> omega),hbk _ (by omega)];exact h.res
 .rw[jH _ _ _ _ (by simp <;> omega),hbk _ (by omega)];exact h.row
 .have:=h.out;rw[<-hbk _ (by omega)]at this
  exact iV _ _ _ _ _ _ this
 .have:(ou++[x]).map (Value.int .i64)=ou.map (Value.int .i64)++[.int .i64 x]:=by simp
  rw[this,aK];exact aV ho (dx (p:=⟨w.heap.size+1+1,0,none⟩)) (λb hb e=>by have:=zP b hb;simp at e;omega)
theorem Vi(s:ByteArray)(u:Int)(h1:-1<=u)(h2:u<10)(hs:s.data.toList=oU u)(w:World):Calls prog 90 #[.string s] w λe w'=>e=.returned (.tuple #[.int .i64 u,.nilIface])/\Ext w w':=by
 have hl:s.size<=18:=by have:=Bu u;rw[<-hs]at this;have e:s.size=s.data.size:=rfl;simp at this;omega
 refine(Tryz.strconv_Atoi s u hl (by rw[hs];exact Ur u h1 h2) w).mono ?_;rintro e w' ⟨rfl,t,rfl⟩;exact⟨rfl,Lib.bytesWorld_below _ _ _⟩
def UH(us:List Int)(sg:List UInt8)(w:World)(en:Ending)(w':World):Prop:=
 ∃vo so,en=.returned (.agg #[vo,.string so])/\Ints w' vo us/\so.data.toList=sg/\(∀b,vo.ownBlock=some b->w.heap.size<=b/\b<w'.heap.size)/\Ext w w'
theorem Mm(s:ByteArray)(us:List Int)(sg:List UInt8)(g:GT us sg)(hs:s.data.toList=sg++txt 32 us)(w:World)(hG:Qp w):
 Calls prog 89 #[.string s,.string ⟨#[32]⟩] w λe w'=>∃ws:List ByteArray,e=.returned (.slice (some ⟨w.heap.size,0,none⟩) (us.length+1) (us.length+1))/\w'=w.alloc (.cells (ws.map Value.string).toArray 9)/\ws.map (·.data.toList)=sg :: us.map oU:=by
 obtain⟨m,hm⟩:=hG.2;have h8:=g.small;have hl:=Ar 32 us;have hsz:s.size<4294967281:=by
  have e:s.size=s.data.size:=rfl;have h1:=congrArg List.length hs;have h2:=g.len;rw[aK]at h1;simp at h1;omega
 have⟨e1,e2⟩:=J6 g hs;refine(Tryz.strings_Split s ⟨#[32]⟩ m w hsz hm (by decide)).mono ?_;rintro e w' ⟨rfl,rfl⟩;exact⟨_,by rw[e1],rfl,e2⟩
theorem JX(s:ByteArray)(us:List Int)(sg:List UInt8)(g:GT us sg)(hs:s.data.toList=sg++txt 32 us)(w:World)(hG:Qp w):
 Calls prog 45 #[.string s] w (UH us sg w):=by
 obtain⟨i0,hi0,hz0,hz1,hz2⟩:=info_parts fB;have Pj:=g.small;have hx0:Ext w (w.alloc (.cells #[.slice none 0 0,.string ⟨#[]⟩] 43)):=by go_grown
 have hb0:=dV w (.cells #[.slice none 0 0,.string ⟨#[]⟩] 43);have hz:(w.alloc (.cells #[.slice none 0 0,.string ⟨#[]⟩] 43)).heap.size=w.heap.size+1:=by simp
 go_enter Tryz.func45,Tryz.ntmps45
 go_upto_region 2 with(go_at_call 89;refine(Mm s us sg g hs _ (hG.ext hx0)).mono ?_;rintro e w1 ⟨ws,rfl,rfl,hws⟩)
 generalize hW0:w.alloc (.cells #[.slice none 0 0,.string ⟨#[]⟩] 43)=W0 at *
 obtain⟨s0,JP,rfl⟩:∃s0 JP,ws=s0 :: JP:=by cases ws with
  |nil=>simp at hws
  |cons a b=>exact⟨a,b,rfl⟩
 rw[eF,iZ]at hws;obtain⟨hs0,acv⟩:=hws;have hlen:JP.length=us.length:=by have:=congrArg List.length acv;simpa using this
 have hb1:=dV W0 (.cells ((s0 :: JP).map Value.string).toArray 9);have aap:(W0.alloc (.cells ((s0 :: JP).map Value.string).toArray 9)).heap[w.heap.size]?=some (.cells #[.slice none 0 0,.string ⟨#[]⟩] 43 (0,0)):=by rw[gI _ _ _ (bq hb0)];exact hb0
 have hx1:=bJ hx0 (.cells ((s0 :: JP).map Value.string).toArray 9);have hz1':(W0.alloc (.cells ((s0 :: JP).map Value.string).toArray 9)).heap.size=w.heap.size+1+1:=by rw[eX,hz]
 rw[hz]at hb1;have hwl:((s0 :: JP).map Value.string).toArray.size=us.length+1:=by simp[hlen]
 have hwi:∀i u,JP[i]?=some u->((s0 :: JP).map Value.string).toArray[1+i]?=some (.string u):=λi u h=>by rw[Nat.add_comm 1 i];simp[h]
 have hw0:((s0 :: JP).map Value.string).toArray[0]?=some (.string s0):=by simp
 generalize ((s0 :: JP).map Value.string).toArray=WS at *;generalize W0.alloc (.cells WS 9)=W1 at *;have c00:=(bI W1 (w.heap.size+1) 0 _ _ _ hb1).trans hw0;have hTO:TO w (W1.alloc (.cells #[.slice none 0 0,.string s0] 43)) WS (.slice none 0 0) [] s0:=by
  refine⟨bJ hx1 _,?_,?_,?_,⟨by simp,.inl ⟨rfl,rfl⟩⟩,by simp[Value.ownBlock]⟩
  .rw[gI _ _ _ (bq aap)];exact aap
  .rw[gI _ _ _ (bq hb1)];exact hb1
  .have h:=dV W1 (.cells #[.slice none 0 0,.string s0] 43);rw[hz1']at h;exact h
 by_cases hnz:us.length=0
 .rw[hnz]
  have HN:=aI hnz;go_wp2
  generalize W1.alloc (.cells #[.slice none 0 0,.string s0] 43)=W2 at *;go_loopw [6,7,8,18] (λ_ _ _ ii wr=>ii=.int .i64 0/\TO w wr WS (.slice none 0 0) [] s0) (λ_ _ _ _ _=>0)
  case atStart=>exact⟨rfl,hTO⟩
  case round=>
   clear hTO;obtain⟨rfl,hM⟩:=hrel;generalize hvo:Value.slice none 0 0=vo at hM;obtain⟨q,hke⟩:=eu us.length;have hou:([]:List Int)=us.take q:=(by rw[hke,cO];exact(List.length_eq_zero_iff.1 HN.out).symm);generalize hoo:([]:List Int)=ou at hM hou;clear hnz hoo;clear hvo;have HOU:=aI hou;have Mr:=aI hke;clear hou hke;have c0:=bI wr (w.heap.size+1+1) 0 _ _ _ hM.out;have c1:=bI wr (w.heap.size+1+1) 1 _ _ _ hM.out;have r0:=bI wr w.heap.size 0 _ _ _ hM.res;have r1:=bI wr w.heap.size 1 _ _ _ hM.res;have f0:=iW wr w.heap.size 0 _ _ hM.res;have f1:=iW wr w.heap.size 1 _ _ hM.res;obtain⟨av,cv,rfl,-⟩:=bu hM.ou;have HM:=aI hM;have hr:=hM.res
   have HH:Hid (((wr.setCell ⟨w.heap.size,0,none⟩ (.slice av ou.length cv)).setCell ⟨w.heap.size,1,none⟩ (.string s0)).heap[w.heap.size]?=some (.cells #[.slice av ou.length cv,.string s0] 43 (0,0))):=
    iV _ _ _ _ _ _ (iV _ _ _ _ _ _ hr)
   clear hM hr;go_wp2
   (try simp only[Exit.inBlock,Exit.then]);refine bodyPost_ret (results_cell_row rfl _ _ w.heap.size 43 #[.slice av ou.length cv,.string s0] (0,0) _ rfl HH.out underlying43 rfl (by kernel_rfl)) rfl ?_;have hM:=HM.out;have hou:=HOU.out;have hke:=Mr.out;have hI:=Ints.dX hM.ou (by rw[hou,gZ];omega);have hsz:=hM.ou.lt;refine⟨_,s0,rfl,?_,hs0,λb hb=>⟨by have:=hM.sep b hb;omega,by simp;exact(hsz b hb).2⟩,(hM.ext.setCell (p:=⟨w.heap.size,0,none⟩) (ax _) _).setCell (p:=⟨w.heap.size,1,none⟩) (ax _) _⟩;have e:ou=us:=(by rw[hou,hke,cO]);clear hou HOU Mr hke;subst e;exact hI.keep (λb _ hb=>by rw[jH _ _ _ _ (by have:=hM.sep b hb;simp <;> omega),jH _ _ _ _ (by have:=hM.sep b hb;simp <;> omega)])
 .have amg:¬(us.length+1=1):=by omega
  go_wp2
  generalize W1.alloc (.cells #[.slice none 0 0,.string s0] 43)=W2 at *;go_loopw [6,7,8,18] (λ_ _ _ ii wr=>∃k vo ou,k<=us.length/\ii=.int .i64 ((k:Nat):Int)/\TO w wr WS vo ou s0/\ou=us.take k) (λ_ _ _ ii _=>us.length-(intOf ii).toNat)
  case atStart=>exact⟨0,_,_,az _,rfl,hTO,rfl⟩
  case round=>
   clear hTO hb0 hb1 aap hx1;obtain⟨k,vo,ou,hk,rfl,hM,hou⟩:=hrel;by_cases hlt:k<us.length
   .have h1:((k:Nat):Int)<((us.length:Nat):Int):=by omega
    have hol:ou.length<=us.length:=(by rw[hou,gZ];omega);have HOU:=aI hou;clear hou;have hk1:k<JP.length:=(by omega);have hwk:=hwi k _ (ae hk1);have hwd:(JP[k]).data.toList=oU (dD us k):=by
     have:=congrArg (λl=>l[k]?) acv;simp only[bO,ae hk1,ae hlt,eT,bN]at this;rw[this,kW hlt]
    generalize JP[k]=sk at *;have ck:=(bI wr (w.heap.size+1) (1+k) _ _ _ hM.row).trans hwk;have hu:=g.up k hlt;obtain⟨av,cv,rfl,hcv,_⟩:=bu hM.ou;have HW:=aI hwd;clear hwd hwk;go_upto_region 7 with(go_at_call 90;refine(Vi _ _ (by omega) (by omega) HW.out _).mono ?_;rintro e w1 ⟨rfl,hx2⟩)
    have hM1:=hM.keep hx2;have c0:=bI w1 (w.heap.size+1+1) 0 _ _ _ hM1.out;have hE2:=hM1.ext.size;clear hM ck;go_upto_region 8 with(at_builtin;(refine dm rfl (.tmp 28) (.tmp 30) 41 rfl w.heap.size 3 i0 (.int .i64 0) 1 8 underlying41 hi0 hz0 hz1 hz2 rfl (by decide) (.slice av ou.length cv) ou.length (ou.map (Value.int .i64)) rfl (hM1.ou.alloc _) _ 1 _ [.int .i64 (dD us k)] rfl rfl (.inr ⟨_,rfl,dA (bY _ _ _)⟩) one_cell (by unfold maxLen;omega) (by omega) (by rw[eX];omega) ?_;intro v5 w5 ji hg5 hl5;obtain⟨a5,c5,rfl,-⟩:=bu ji;obtain⟨oD,Zb,f50⟩:=hM1.put ji hg5 hl5))
    generalize w5.setCell ⟨w.heap.size+1+1,0,none⟩ (.slice a5 (ou.length+1) c5)=W3 at *;have HM:=aI oD;clear oD hM1;go_wp2_with (fail)
    go_roundw
    case rel=>exact⟨k+1,_,_,by omega,by go_num,HM.out,by rw[HOU.out,mX hlt]⟩
    case measure=>simp[intOf];omega
   .have h1:¬(((k:Nat):Int)<((us.length:Nat):Int)):=by omega
    have hke:k=us.length:=(by omega);have HOU:=aI hou;have Mr:=aI hke;clear hou hke;have c0:=bI wr (w.heap.size+1+1) 0 _ _ _ hM.out;have c1:=bI wr (w.heap.size+1+1) 1 _ _ _ hM.out;have r0:=bI wr w.heap.size 0 _ _ _ hM.res;have r1:=bI wr w.heap.size 1 _ _ _ hM.res;have f0:=iW wr w.heap.size 0 _ _ hM.res;have f1:=iW wr w.heap.size 1 _ _ hM.res;obtain⟨av,cv,rfl,-⟩:=bu hM.ou;have HM:=aI hM;have hr:=hM.res
    have HH:Hid (((wr.setCell ⟨w.heap.size,0,none⟩ (.slice av ou.length cv)).setCell ⟨w.heap.size,1,none⟩ (.string s0)).heap[w.heap.size]?=some (.cells #[.slice av ou.length cv,.string s0] 43 (0,0))):=
     iV _ _ _ _ _ _ (iV _ _ _ _ _ _ hr)
    clear hM hr;go_wp2
    (try simp only[Exit.inBlock,Exit.then]);refine bodyPost_ret (results_cell_row rfl _ _ w.heap.size 43 #[.slice av ou.length cv,.string s0] (0,0) _ rfl HH.out underlying43 rfl (by kernel_rfl)) rfl ?_;have hM:=HM.out;have hou:=HOU.out;have hke:=Mr.out;have hI:=Ints.dX hM.ou (by rw[hou,gZ];omega);have hsz:=hM.ou.lt;refine⟨_,s0,rfl,?_,hs0,λb hb=>⟨by have:=hM.sep b hb;omega,by simp;exact(hsz b hb).2⟩,(hM.ext.setCell (p:=⟨w.heap.size,0,none⟩) (ax _) _).setCell (p:=⟨w.heap.size,1,none⟩) (ax _) _⟩;have e:ou=us:=(by rw[hou,hke,cO]);clear hou HOU Mr hke;subst e;exact hI.keep (λb _ hb=>by rw[jH _ _ _ _ (by have:=hM.sep b hb;simp <;> omega),jH _ _ _ _ (by have:=hM.sep b hb;simp <;> omega)])
end
