/- 48 -/
import Derived.Test.YtplgooajigigkaaGreatDoorK47
set_option maxRecDepth 100000
set_option maxHeartbeats 4000000
namespace Go.Proofs.YtplgooajigigkaaGreatDoor
open Tryz
open Go.RowKit
open bE (dh Nd Gm vl Same N0 Val gd dO dP Mid Canon)
def Told(C:dh)(VL:List (Int × Nat))(AL:List Bool)(k:Nat):Prop:=
 VL.length=k/\AL.length=k/\∀j,j<k->(AL[j]?=some true->∃a,Val (vl C j) a/\VL[j]?=some (dO 16 a,dP 16 a))/\(AL[j]?=some false->¬N0 (vl C j))
def YJ(w:World)(v u:Value)(VL:List (Int × Nat))(AL:List Bool):Prop:=
 (∃a c,v=.slice a VL.length c)/\(∃a c,u=.slice a AL.length c)/\VL.length<=1000000/\AL.length<=1000000/\
 (∀j (h:j<VL.length),∃g c,v=.slice (some ⟨g,0,none⟩) VL.length c/\w.cell? ⟨g,j*2,none⟩=some (.int .i64 (VL[j]).1)/\w.cell? ⟨g,j*2+1,none⟩=some (.int .i64 ((VL[j]).2:Int)))/\
 ∀j (h:j<AL.length),∃g c,u=.slice (some ⟨g,0,none⟩) AL.length c/\w.cell? ⟨g,j,none⟩=some (.bool AL[j])
def IW(g:Gm)(w:World)(e:Ending)(w':World):Prop:=
 ∃t p ok,e=.returned (.tuple #[tY t p,.bool ok])/\(ok=true->∃a,Val g a/\t=dO 16 a/\p=dP 16 a)/\(ok=false->¬N0 g)/\Ext w w'
theorem QF{C:dh}(g:bE.Good C){k:Nat}{L R:List Nat}(hd:C[k]?=some (L,R))(h:1<L.length\/1<R.length):¬N0 (vl C k):=λn=>by
 have hk:=(df.1 hd).1;have i:=QV.1 (QU g k hk n);rw[bE.lI g.wf hd,bE.lH g.wf hd,bK,bK]at i;have h1:=i.1;have h2:=i.2.1;simp only at h1 h2;omega
def ZL:List Row:=[⟨0,[],71,[1]⟩,⟨1,[],72,[3]⟩,⟨2,[1],73,[71]⟩,⟨3,[2],74,[72]⟩,⟨4,[3],75,[73]⟩,⟨5,[0,4],76,[70,74]⟩,⟨6,[5],77,[75]⟩,⟨7,[],78,[8]⟩,⟨8,[6,7],79,[76,77]⟩,⟨9,[8,8],80,[78]⟩,⟨10,[9],81,[79]⟩,⟨11,[9],82,[79]⟩,⟨12,[10,9,0,1,2,3,4,5,6,7,8,9,10,11],0,[6,80]⟩,⟨13,[11,12,0,1,2,3,4,5,6,7,8,9,10,11,12],8,[81]⟩]
def ZK:List Row:=[⟨0,[],88,[1]⟩,⟨1,[],89,[3]⟩,⟨2,[1],90,[88]⟩,⟨3,[2],91,[89]⟩,⟨4,[3],92,[90]⟩,⟨5,[0,4],93,[87,91]⟩,⟨6,[5],94,[92]⟩,⟨7,[],95,[8]⟩,⟨8,[7],96,[94]⟩,⟨9,[6,8,8],97,[93,95]⟩,⟨10,[9,9],98,[96]⟩,⟨11,[10],99,[97]⟩,⟨12,[10],100,[97]⟩,⟨13,[11,10,0,1,2,3,4,5,6,7,8,9,10,11,12],0,[6,98]⟩,⟨14,[12,13,0,1,2,3,4,5,6,7,8,9,10,11,12,13],8,[99]⟩]
def Vm:List Row:=[⟨0,[],101,[1]⟩,⟨1,[],102,[3]⟩,⟨2,[1],103,[101]⟩,⟨3,[2],104,[102]⟩,⟨4,[3],105,[103]⟩,⟨5,[0,4],106,[100,104]⟩,⟨6,[5],107,[105]⟩,⟨7,[],108,[1]⟩,⟨8,[],109,[3]⟩,⟨9,[8],110,[108]⟩,⟨10,[9],111,[109]⟩,⟨11,[10],112,[110]⟩,⟨12,[7,11],113,[107,111]⟩,⟨13,[12],114,[112]⟩,⟨14,[],10,[]⟩,⟨15,[],11,[]⟩,⟨16,[14,6,0,1,2,3,4,5,6,14,15],0,[9,106]⟩,⟨17,[15,13,16,0,1,2,3,4,5,6,7,8,9,10,11,12,13,14,15,16],0,[10,113]⟩]
theorem Od(C:dh)(k:Nat)(L R:List Nat)(vL vR vv va:Value)(VL:List (Int × Nat))(AL:List Bool)(w:World)(gC:bE.Good C)(hd:C[k]?=some (L,R))(cK:Canon (vl C k))(hT:Told C VL AL k)(hL:Ints w vL (dB L))(hR:Ints w vR (dB R))(hN:YJ w vv va VL AL):
 Calls prog 193 #[.agg #[vL,vR],vv,va] w (IW (vl C k) w):=by
 obtain⟨aL,cL,rfl,-,-,-⟩:=id hL;obtain⟨aR,cR,rfl,-,-,-⟩:=id hR;obtain⟨⟨av,cv,rfl⟩,⟨ab,cb,rfl⟩,hlv,hla,hNv,hNa⟩:=id hN;rw[bG,bG];rw[bG]at hL hR;obtain⟨hVl,hAl,hTT⟩:=hT;obtain⟨W,hW,hx,b0,b1,hz⟩:=MV w (.cells #[.slice aL L.length cL,.slice aR R.length cR] 91) (.cells #[.int .i64 0,.int .i64 0] 34);obtain⟨w1,w2⟩:=gC.wf k _ hd;have hl:=bE.lI gC.wf hd;have hr:=bE.lH gC.wf hd;have n0:=bQ W w.heap.size 0 _ _ _ b0;have n1:=bQ W w.heap.size 1 _ _ _ b0;simp only[gE]at n0 n1;have HB:=jm b0 b1;have HX:=aW hx;have HG:=nY gC hd cK;have HV:=jm hl hr;have zP:=jm w1 w2;have HTT:=aW hTT;have Ar:=jm hL hR;have Zx:=jm hNv hNa;have sU:=jm hVl hAl;clear b0 b1 hx hd cK hl hr w1 w2 hTT hL hR hNv hNa hN gC hVl hAl hlv hla hz;by_cases hl1:1<L.length
 .have rq:=aW (QF HG.out.1 HG.out.2.1 (.inl hl1))
  have g1:(1:Int)<((L.length:Nat):Int):=by omega
  clear hl1;go_enter Tryz.func193,Tryz.ntmps193
  go_upto_region 1 with fail
  rw[<-hW];clear hW;have z0:=bQ W (w.heap.size+1) 0 _ _ _ HB.out.2;have z1:=bQ W (w.heap.size+1) 1 _ _ _ HB.out.2;obtain⟨q0,q1,q2,q3⟩:=eZ HB.out.2;have q4:=(q2 (.int .i64 0)).1;have q5:=(q2 (.int .i64 0)).2;have HQ:=aW (q3 (.int .i64 0) (.int .i64 0));clear q2 q3 z0 z1;go_wp2
  refine mg (w.heap.size+1) 34 #[.int .i64 0,.int .i64 0] HQ.out underlying34 ?_;exact⟨0,0,false,rfl,(λh=>by cases h),λ_=>rq.out,ll (ll HX.out (w.heap.size+1) 0 _) (w.heap.size+1) 1 _⟩
 have g1:¬(1:Int)<((L.length:Nat):Int):=by omega
 by_cases hr1:1<R.length
 .have rq:=aW (QF HG.out.1 HG.out.2.1 (.inr hr1))
  have g2:(1:Int)<((R.length:Nat):Int):=by omega
  clear hl1 hr1;go_enter Tryz.func193,Tryz.ntmps193
  go_upto_region 1 with fail
  rw[<-hW];clear hW;have z0:=bQ W (w.heap.size+1) 0 _ _ _ HB.out.2;have z1:=bQ W (w.heap.size+1) 1 _ _ _ HB.out.2;obtain⟨q0,q1,q2,q3⟩:=eZ HB.out.2;have q4:=(q2 (.int .i64 0)).1;have q5:=(q2 (.int .i64 0)).2;have HQ:=aW (q3 (.int .i64 0) (.int .i64 0));clear q2 q3 z0 z1;go_wp2
  refine mg (w.heap.size+1) 34 #[.int .i64 0,.int .i64 0] HQ.out underlying34 ?_;exact⟨0,0,false,rfl,(λh=>by cases h),λ_=>rq.out,ll (ll HX.out (w.heap.size+1) 0 _) (w.heap.size+1) 1 _⟩
 have g2:¬(1:Int)<((R.length:Nat):Int):=by omega
 have hLc:(L=[]\/∃x,L=[x]):=by
  match L,hl1 with
  |[],_=>exact .inl rfl
  |[x],_=>exact .inr ⟨x,rfl⟩
  |_ :: _ :: _,h=>simp at h
 have hRc:(R=[]\/∃x,R=[x]):=by
  match R,hr1 with
  |[],_=>exact .inl rfl
  |[x],_=>exact .inr ⟨x,rfl⟩
  |_ :: _ :: _,h=>simp at h
 clear hl1 hr1;have hAt:∀x,x<k->∃g c gv cv',(Value.slice ab AL.length cb=.slice (some ⟨g,0,none⟩) AL.length c/\x<AL.length)/\(Value.slice av VL.length cv=.slice (some ⟨gv,0,none⟩) VL.length cv'/\x<VL.length)/\∃b t p,W.cell? ⟨g,x,none⟩=some (.bool b)/\W.cell? ⟨gv,x*2,none⟩=some (.int .i64 t)/\W.cell? ⟨gv,x*2+1,none⟩=some (.int .i64 (p:Int))/\(b=true->∃a,Val (vl C x) a/\t=dO 16 a/\p=dP 16 a)/\(b=false->¬N0 (vl C x)):=λx hx=>by
  have h1:x<AL.length:=by have:=sU.out.2;omega
  have h2:x<VL.length:=by have:=sU.out.1;omega
  obtain⟨g,c,e,k1⟩:=Zx.out.2 x h1;obtain⟨gv,c',e',k2,k3⟩:=Zx.out.1 x h2;obtain⟨t1,t2⟩:=HTT.out x hx;refine⟨g,c,gv,c',⟨e,h1⟩,⟨e',h2⟩,AL[x],(VL[x]).1,(VL[x]).2,fw HX.out k1,fw HX.out k2,fw HX.out k3,λhb=>?_,λhb=>?_⟩
  .obtain⟨a,va,e⟩:=t1 (by rw[af h1,hb])
   rw[af h2]at e;injection e with e;exact⟨a,va,by rw[e],by rw[e]⟩
  .exact t2 (by rw[af h1,hb])
 have HAT:=aW hAt;clear hAt;rcases hLc with rfl|⟨x,rfl⟩
 .rcases hRc with rfl|⟨y,rfl⟩
  ·
   simp only[qw,gI,fI]at *;have HJ:Hid (∃a,Val (vl C k) a/\(0:Int)=dO 16 a/\(0:Nat)=dP 16 a):=aW ⟨0,bE.val_zero (by rw[HV.out.1];rfl) (by rw[HV.out.2];rfl),by decide,by decide⟩;have hb2:=HB.out.2;obtain⟨q0,q1,q2,q3⟩:=eZ hb2;have ho:=Ce W (.cells #[.int .i64 1,.int .i64 0] 34);go_enter Tryz.func193,Tryz.ntmps193
   go_upto_region 1 with fail
   rw[<-hW];clear hW;go_upto_region 4 with fail
   obtain⟨V,hV,y7,bV,OA⟩:=ho;rw[<-hV];have Pp:Ext W V:=y7;have m0:=fw y7 n0;have m1:=fw y7 n1;clear n0 n1 hV bV OA hb2 q0 q1 q2 q3;obtain⟨kt,hkt⟩:∃x:Int,x=0:=⟨_,rfl⟩;obtain⟨kp,hkp⟩:∃x:Nat,x=0:=⟨_,rfl⟩;have hrz:=ik Pp HB.out.2;obtain⟨q0,q1,q2,q3⟩:=eZ hrz;have q4:=(q2 (.int .i64 0)).1;have q5:=(q2 (.int .i64 0)).2;have HQ:=aW (q3 (.int .i64 0) (.int .i64 0));have HEZ:=aW Pp;clear q2 q3 hrz Pp hkt hkp kt kp y7;go_wp2
   refine mg (w.heap.size+1) 34 #[.int .i64 0,.int .i64 0] HQ.out underlying34 ?_;exact⟨0,0,true,rfl,λ_=>HJ.out,(λh=>by cases h),ll (ll (ah HX.out HEZ.out) (w.heap.size+1) 0 _) (w.heap.size+1) 1 _⟩
  ·
   have hyk:=zP.out.2 y (by simp);obtain⟨ga,ca,gv,cv',⟨ea,hal⟩,⟨ev,hvl⟩,b,ty,py,kb0,SV,SS,hb1,hb2⟩:=HAT.out y hyk;simp only[il,true_and]at ea ev;obtain⟨rfl,rfl⟩:=ea;obtain⟨rfl,rfl⟩:=ev;obtain⟨bR,oR,rfl,kr⟩:=qL (m:=0) Ar.out.2 (by simp);have kr:=fw HX.out kr;simp only[qy,jG]at kr;have hiy:((y:Nat):Int)<((AL.length:Nat):Int):=(by omega);have hiv:((y:Nat):Int)<((VL.length:Nat):Int):=(by omega);simp only[qw,gI,fI]at *;cases b with
   |false=>
    have rq:Hid (¬N0 (vl C k)):=aW λn=>hb2 rfl (bE.lT.right _ _ n (by rw[HV.out.2];simp)).1
    clear hb1 hb2 SV SS;go_enter Tryz.func193,Tryz.ntmps193
    go_upto_region 1 with fail
    rw[<-hW];clear hW;have z0:=bQ W (w.heap.size+1) 0 _ _ _ HB.out.2;have z1:=bQ W (w.heap.size+1) 1 _ _ _ HB.out.2;obtain⟨q0,q1,q2,q3⟩:=eZ HB.out.2;have q4:=(q2 (.int .i64 0)).1;have q5:=(q2 (.int .i64 0)).2;have HQ:=aW (q3 (.int .i64 0) (.int .i64 0));clear q2 q3 z0 z1;go_wp2
    refine mg (w.heap.size+1) 34 #[.int .i64 0,.int .i64 0] HQ.out underlying34 ?_;exact⟨0,0,false,rfl,(λh=>by cases h),λ_=>rq.out,ll (ll HX.out (w.heap.size+1) 0 _) (w.heap.size+1) 1 _⟩
   |true=>
    obtain⟨a,hva,rfl,rfl⟩:=hb1 rfl;have hj:=DT (g:=vl C k) (k:=a+-1*65536) (λj=>by
     rw[bE.G9 HG.out.2.2 (by rw[HV.out.1];rfl) (by rw[HV.out.2];rfl) hva,show a+-1*65536=a-65536 by omega])
    have bnd:=Jv hva.1;have e24:=Im (a:=a) (s:=-1);have Qd:=aW e24;have XL:=aW (λV=>nk 1 0 V (by omega) (by omega));have hAdd:=aW (λV=>sI (dO 16 a) (-1) (dP 16 a) 0 V (by omega) (by omega) (by omega) (by omega) (by omega) (by omega));obtain⟨kt,hkt⟩:=fu ((if dS (dO 16 (a+-1*65536)) (dP 16 (a+-1*65536))then(dO 16 (a+-1*65536))else 0));obtain⟨kp,hkp⟩:=fu ((if dS (dO 16 (a+-1*65536)) (dP 16 (a+-1*65536))then(dP 16 (a+-1*65536))else 0));obtain⟨kb,hkb⟩:=fu (dS (dO 16 (a+-1*65536)) (dP 16 (a+-1*65536)));have hIf:∀V,Calls prog 223 #[tY (dO 16 (a+-1*65536)) (dP 16 (a+-1*65536))] V λe w'=>e=.returned (.tuple #[.agg #[.int .i64 kt,.int .i64 (kp:Int)],.bool kb])/\Ext V w':=λV=>by
     have en:mD (dO 16 (a+-1*65536)) (dP 16 (a+-1*65536))=.tuple #[.agg #[.int .i64 kt,.int .i64 (kp:Int)],.bool kb]:=(by rw[mD,hkt,hkp,hkb];rfl);have h:=Fe (dO 16 (a+-1*65536)) (dP 16 (a+-1*65536)) V;rw[en]at h;exact h
    have HIF:=aW hIf;have HJ:Hid ((kb=true->∃j,Val (vl C k) j/\kt=dO 16 j/\kp=dP 16 j)/\(kb=false->¬N0 (vl C k))):=aW ⟨λq=>by
     rw[hkb]at q;obtain⟨j,h1,h2,h3⟩:=hj.1 q;exact⟨j,h1,by rw[hkt,if_pos q];exact h2,by rw[hkp,if_pos q];exact h3⟩,λq=>hj.2 (by rw[<-hkb];exact q)⟩
    clear hj hkt hkp hkb hIf;have ho:=Ce W (.cells #[.int .i64 1,.int .i64 0] 34);obtain⟨ta,WT⟩:=fu (dO 16 a);obtain⟨pa,Jz⟩:=fu (dP 16 a);rw[<-WT,<-Jz]at hAdd Qd;rw[<-WT]at SV;rw[<-Jz]at SS;clear hb1 hb2 bnd e24 hva WT Jz;go_enter Tryz.func193,Tryz.ntmps193
    go_upto_region 1 with fail
    rw[<-hW];clear hW;go_upto_region 4 with fail
    obtain⟨V,hV,y7,bV,OA⟩:=ho;rw[<-hV];have dV:oQ V W.heap.size 1 0:=bV;obtain⟨o0,o1⟩:=dV.cells;have m0:=fw y7 n0;have m1:=fw y7 n1;have mr:=fw y7 kr;have QJ:=fw y7 SV;have QI:=fw y7 SS;have HXV:=aW y7;clear n0 n1 kr SV SS kb0 hV bV OA y7 dV;generalize W.heap.size=ob at *;go_upto_region 9 with fail
    have hS:∀U,Ext V U->(U.cell? ⟨w.heap.size,1,none⟩=some (.slice (some ⟨bR,oR,none⟩) 1 cR)/\U.cell? ⟨bR,oR,none⟩=some (.int .i64 ((y:Nat):Int)))/\(U.cell? ⟨gv,y*2,none⟩=some (.int .i64 ta)/\U.cell? ⟨gv,y*2+1,none⟩=some (.int .i64 (pa:Int)))/\U.cell? ⟨ob,0,none⟩=some (.int .i64 1)/\U.cell? ⟨ob,1,none⟩=some (.int .i64 0):=λU hU=>
     ⟨⟨fw hU m1,fw hU mr⟩,⟨fw hU QJ,fw hU QI⟩,fw hU o0,fw hU o1⟩
    have ae:=hS _ (eX V);have HS:=aW hS;clear hS m0 m1 mr QJ QI o0 o1;refine oJ (λU=>(U.cell? ⟨w.heap.size,1,none⟩=some (.slice (some ⟨bR,oR,none⟩) 1 cR)/\U.cell? ⟨bR,oR,none⟩=some (.int .i64 ((y:Nat):Int)))/\(U.cell? ⟨gv,y*2,none⟩=some (.int .i64 ta)/\U.cell? ⟨gv,y*2+1,none⟩=some (.int .i64 (pa:Int)))/\U.cell? ⟨ob,0,none⟩=some (.int .i64 1)/\U.cell? ⟨ob,1,none⟩=some (.int .i64 0)) [13,14] ZK ae (λaj ae=>?_);(refine bP 0 aj ae ?_;refine bP 1 aj ae ?_;refine bP 2 aj ae ?_;refine bP 3 aj ae ?_;refine bP 4 aj ae ?_;refine bP 5 aj ae ?_;refine bP 6 aj ae ?_;refine bP 7 aj ae ?_);(refine jv aj (i:=8) λK hK=>?_;go_simp);refine(XL.out _).mono ?_;rintro e w3 ⟨rfl,hx3⟩;have mZ:=ah (eX V) hx3;have ae:=HS.out _ mZ;refine hK.out _ _ (λ_=>ae) ?_;clear hK K;(try simp only[nP]);(refine jv aj (i:=9) λK hK=>?_;go_simp);refine(hAdd.out _).mono ?_;rintro e w4 ⟨he,hx4⟩;rw[Qd.out.1,Qd.out.2]at he;subst he;have oK:=ah mZ hx4;have ae:=HS.out _ oK;refine hK.out _ _ (λ_=>ae) ?_;clear hK K;(try simp only[nP]);(refine jv aj (i:=10) λK hK=>?_;go_simp);refine(HIF.out _).mono ?_;rintro e w5 ⟨rfl,hx5⟩;have uj:=ah oK hx5;have ae:=HS.out _ uj;refine hK.out _ _ (λ_=>ae) ?_;clear hK K;(try simp only[nP]);(refine bP 11 aj ae ?_;refine bP 12 aj ae ?_);refine nQ aj [13,14] [_,_] ?_;clear aj ae;have Pp:=ah HXV.out uj;have hrz:=ik Pp HB.out.2;obtain⟨q0,q1,q2,q3⟩:=eZ hrz;have q4:=(q2 (.int .i64 kt)).1;have q5:=(q2 (.int .i64 kt)).2;have HQ:=aW (q3 (.int .i64 kt) (.int .i64 (kp:Int)));have HEZ:=aW Pp;clear q2 q3 hrz Pp;go_wp2
    refine mg (w.heap.size+1) 34 #[.int .i64 kt,.int .i64 (kp:Int)] HQ.out underlying34 ?_;exact⟨kt,kp,kb,rfl,HJ.out.1,HJ.out.2,ll (ll (ah HX.out HEZ.out) (w.heap.size+1) 0 _) (w.heap.size+1) 1 _⟩
 .have hxk:=zP.out.1 x (by simp)
  obtain⟨ga,ca,gv,cv',⟨ea,hal⟩,⟨ev,hvl⟩,b,tx,px,kb0,SV,SS,hb1,hb2⟩:=HAT.out x hxk;simp only[il,true_and]at ea ev;obtain⟨rfl,rfl⟩:=ea;obtain⟨rfl,rfl⟩:=ev;obtain⟨bL,oL,rfl,kl⟩:=qL (m:=0) Ar.out.1 (by simp);have kl:=fw HX.out kl;simp only[qy,jG]at kl;have hix:((x:Nat):Int)<((AL.length:Nat):Int):=by omega
  have hiv:((x:Nat):Int)<((VL.length:Nat):Int):=by omega
  cases b with
  |false=>
   have rq:Hid (¬N0 (vl C k)):=aW λn=>hb2 rfl (bE.lT.left _ _ n (by rw[HV.out.1];simp)).1
   clear hb1 hb2 SV SS hRc;simp only[qw,gI,fI]at *;go_enter Tryz.func193,Tryz.ntmps193
   go_upto_region 1 with fail
   rw[<-hW];clear hW;have z0:=bQ W (w.heap.size+1) 0 _ _ _ HB.out.2;have z1:=bQ W (w.heap.size+1) 1 _ _ _ HB.out.2;obtain⟨q0,q1,q2,q3⟩:=eZ HB.out.2;have q4:=(q2 (.int .i64 0)).1;have q5:=(q2 (.int .i64 0)).2;have HQ:=aW (q3 (.int .i64 0) (.int .i64 0));clear q2 q3 z0 z1;go_wp2
   refine mg (w.heap.size+1) 34 #[.int .i64 0,.int .i64 0] HQ.out underlying34 ?_;exact⟨0,0,false,rfl,(λh=>by cases h),λ_=>rq.out,ll (ll HX.out (w.heap.size+1) 0 _) (w.heap.size+1) 1 _⟩
  |true=>
   obtain⟨a,hva,rfl,rfl⟩:=hb1 rfl;have bnd:=Jv hva.1;have HVA:=aW hva;clear hb1 hb2 hva;rcases hRc with rfl|⟨y,rfl⟩
   .simp only[qw,gI,fI]at *
    have hj:=DT (g:=vl C k) (k:=a+1*65536) (λj=>by
     rw[bE.Ky HG.out.2.2 (by rw[HV.out.1];rfl) (by rw[HV.out.2];rfl) HVA.out,show a+1*65536=a+65536 by omega])
    have e24:=Im (a:=a) (s:=1);have Qd:=aW e24;have hAdd:=aW (λV=>sI (dO 16 a) 1 (dP 16 a) 0 V (by omega) (by omega) (by omega) (by omega) (by omega) (by omega));obtain⟨kt,hkt⟩:=fu ((if dS (dO 16 (a+1*65536)) (dP 16 (a+1*65536))then(dO 16 (a+1*65536))else 0));obtain⟨kp,hkp⟩:=fu ((if dS (dO 16 (a+1*65536)) (dP 16 (a+1*65536))then(dP 16 (a+1*65536))else 0));obtain⟨kb,hkb⟩:=fu (dS (dO 16 (a+1*65536)) (dP 16 (a+1*65536)));have hIf:∀V,Calls prog 223 #[tY (dO 16 (a+1*65536)) (dP 16 (a+1*65536))] V λe w'=>e=.returned (.tuple #[.agg #[.int .i64 kt,.int .i64 (kp:Int)],.bool kb])/\Ext V w':=λV=>by
     have en:mD (dO 16 (a+1*65536)) (dP 16 (a+1*65536))=.tuple #[.agg #[.int .i64 kt,.int .i64 (kp:Int)],.bool kb]:=(by rw[mD,hkt,hkp,hkb];rfl);have h:=Fe (dO 16 (a+1*65536)) (dP 16 (a+1*65536)) V;rw[en]at h;exact h
    have HIF:=aW hIf;have HJ:Hid ((kb=true->∃j,Val (vl C k) j/\kt=dO 16 j/\kp=dP 16 j)/\(kb=false->¬N0 (vl C k))):=aW ⟨λq=>by
     rw[hkb]at q;obtain⟨j,h1,h2,h3⟩:=hj.1 q;exact⟨j,h1,by rw[hkt,if_pos q];exact h2,by rw[hkp,if_pos q];exact h3⟩,λq=>hj.2 (by rw[<-hkb];exact q)⟩
    clear hj hkt hkp hkb hIf;have ho:=Ce W (.cells #[.int .i64 1,.int .i64 0] 34);obtain⟨ta,WT⟩:=fu (dO 16 a);obtain⟨pa,Jz⟩:=fu (dP 16 a);rw[<-WT,<-Jz]at hAdd Qd;rw[<-WT]at SV;rw[<-Jz]at SS;clear bnd e24 WT Jz;go_enter Tryz.func193,Tryz.ntmps193
    go_upto_region 1 with fail
    rw[<-hW];clear hW;go_upto_region 4 with fail
    obtain⟨V,hV,y7,bV,OA⟩:=ho;rw[<-hV];have dV:oQ V W.heap.size 1 0:=bV;obtain⟨o0,o1⟩:=dV.cells;have m0:=fw y7 n0;have m1:=fw y7 n1;have mr:=fw y7 kl;have QJ:=fw y7 SV;have QI:=fw y7 SS;have HXV:=aW y7;clear n0 n1 kl SV SS kb0 hV bV OA y7 dV;generalize W.heap.size=ob at *;go_upto_region 7 with fail
    have hS:∀U,Ext V U->(U.cell? ⟨w.heap.size,0,none⟩=some (.slice (some ⟨bL,oL,none⟩) 1 cL)/\U.cell? ⟨bL,oL,none⟩=some (.int .i64 ((x:Nat):Int)))/\(U.cell? ⟨gv,x*2,none⟩=some (.int .i64 ta)/\U.cell? ⟨gv,x*2+1,none⟩=some (.int .i64 (pa:Int)))/\U.cell? ⟨ob,0,none⟩=some (.int .i64 1)/\U.cell? ⟨ob,1,none⟩=some (.int .i64 0):=λU hU=>
     ⟨⟨fw hU m0,fw hU mr⟩,⟨fw hU QJ,fw hU QI⟩,fw hU o0,fw hU o1⟩
    have ae:=hS _ (eX V);have HS:=aW hS;clear hS m0 m1 mr QJ QI o0 o1;refine oJ (λU=>(U.cell? ⟨w.heap.size,0,none⟩=some (.slice (some ⟨bL,oL,none⟩) 1 cL)/\U.cell? ⟨bL,oL,none⟩=some (.int .i64 ((x:Nat):Int)))/\(U.cell? ⟨gv,x*2,none⟩=some (.int .i64 ta)/\U.cell? ⟨gv,x*2+1,none⟩=some (.int .i64 (pa:Int)))/\U.cell? ⟨ob,0,none⟩=some (.int .i64 1)/\U.cell? ⟨ob,1,none⟩=some (.int .i64 0)) [12,13] ZL ae (λaj ae=>?_);(refine bP 0 aj ae ?_;refine bP 1 aj ae ?_;refine bP 2 aj ae ?_;refine bP 3 aj ae ?_;refine bP 4 aj ae ?_;refine bP 5 aj ae ?_;refine bP 6 aj ae ?_;refine bP 7 aj ae ?_);(refine jv aj (i:=8) λK hK=>?_;go_simp);refine(hAdd.out _).mono ?_;rintro e w4 ⟨he,hx4⟩;rw[Qd.out.1,Qd.out.2]at he;subst he;have oK:=ah (eX V) hx4;have ae:=HS.out _ oK;refine hK.out _ _ (λ_=>ae) ?_;clear hK K;(try simp only[nP]);(refine jv aj (i:=9) λK hK=>?_;go_simp);refine(HIF.out _).mono ?_;rintro e w5 ⟨rfl,hx5⟩;have uj:=ah oK hx5;have ae:=HS.out _ uj;refine hK.out _ _ (λ_=>ae) ?_;clear hK K;(try simp only[nP]);(refine bP 10 aj ae ?_;refine bP 11 aj ae ?_);refine nQ aj [12,13] [_,_] ?_;clear aj ae;have Pp:=ah HXV.out uj;have hrz:=ik Pp HB.out.2;obtain⟨q0,q1,q2,q3⟩:=eZ hrz;have q4:=(q2 (.int .i64 kt)).1;have q5:=(q2 (.int .i64 kt)).2;have HQ:=aW (q3 (.int .i64 kt) (.int .i64 (kp:Int)));have HEZ:=aW Pp;clear q2 q3 hrz Pp;go_wp2
    refine mg (w.heap.size+1) 34 #[.int .i64 kt,.int .i64 (kp:Int)] HQ.out underlying34 ?_;exact⟨kt,kp,kb,rfl,HJ.out.1,HJ.out.2,ll (ll (ah HX.out HEZ.out) (w.heap.size+1) 0 _) (w.heap.size+1) 1 _⟩
   .simp only[qw,gI,fI]at *
    have hyk:=zP.out.2 y (by simp);obtain⟨ga2,ca2,gv2,cv2,⟨ea,atJ⟩,⟨ev,asL⟩,b2,ty,py,kb2,kw0,kw1,hb1,hb2⟩:=HAT.out y hyk;simp only[il,bU,Addr.mk.injEq,and_true,true_and]at ea ev;obtain⟨rfl,rfl⟩:=ea;obtain⟨rfl,rfl⟩:=ev;obtain⟨bR,oR,rfl,kr⟩:=qL (m:=0) Ar.out.2 (by simp);have kr:=fw HX.out kr;simp only[qy,jG]at kr;have hiy:((y:Nat):Int)<((AL.length:Nat):Int):=(by omega);have hiw:((y:Nat):Int)<((VL.length:Nat):Int):=(by omega);cases b2 with
    |false=>
     have rq:Hid (¬N0 (vl C k)):=aW λn=>hb2 rfl (bE.lT.right _ _ n (by rw[HV.out.2];simp)).1
     clear hb1 hb2 SV SS kw0 kw1 bnd;go_enter Tryz.func193,Tryz.ntmps193
     go_upto_region 1 with fail
     rw[<-hW];clear hW;have z0:=bQ W (w.heap.size+1) 0 _ _ _ HB.out.2;have z1:=bQ W (w.heap.size+1) 1 _ _ _ HB.out.2;obtain⟨q0,q1,q2,q3⟩:=eZ HB.out.2;have q4:=(q2 (.int .i64 0)).1;have q5:=(q2 (.int .i64 0)).2;have HQ:=aW (q3 (.int .i64 0) (.int .i64 0));clear q2 q3 z0 z1;go_wp2
     refine mg (w.heap.size+1) 34 #[.int .i64 0,.int .i64 0] HQ.out underlying34 ?_;exact⟨0,0,false,rfl,(λh=>by cases h),λ_=>rq.out,ll (ll HX.out (w.heap.size+1) 0 _) (w.heap.size+1) 1 _⟩
    |true=>
     obtain⟨c,hvc,rfl,rfl⟩:=hb1 rfl;have PO:=Jv hvc.1;have HVB:=aW (bE.Kz HG.out.2.2 (by rw[HV.out.1];rfl) (by rw[HV.out.2];rfl) HVA.out hvc);have HZ:Hid (dO 16 c=0->dP 16 c=0):=aW λh=>by have:=(bE.Ac 16 c).2.2;omega
     have XQ:=aW (λV=>tK (dO 16 a) (dO 16 c) (dP 16 a) (dP 16 c) V (by omega) (by omega) (by omega) (by omega) (by omega) (by omega));have HSC:Hid (sc (dO 16 a) (dP 16 a)=a*256/\sc (dO 16 c) (dP 16 c)=c*256):=aW ⟨NA,NA⟩;have HBT:=aW (λ(hM:Mid a c) V=>GA a c (dO 16 a) (dO 16 c) (dP 16 a) (dP 16 c) V (by omega) (by omega) (by omega) (by omega) (by omega) (by omega) HSC.out.1 HSC.out.2 hM HZ.out);obtain⟨ta,WT⟩:=fu (dO 16 a);obtain⟨pa,Jz⟩:=fu (dP 16 a);obtain⟨tc,htc⟩:=fu (dO 16 c);obtain⟨pc,hpc⟩:=fu (dP 16 c);have hsa:=HSC.out;rw[<-WT,<-Jz,<-htc,<-hpc]at XQ HBT hsa;rw[<-WT]at SV;rw[<-Jz]at SS;rw[<-htc]at kw0;rw[<-hpc]at kw1;have Uo:=aW hsa;have ho:=Ce W (.cells #[.int .i64 1,.int .i64 0] 34);clear hb1 hb2 hvc bnd PO HZ HSC WT Jz htc hpc hsa;go_enter Tryz.func193,Tryz.ntmps193
     go_upto_region 1 with fail
     rw[<-hW];clear hW;go_upto_region 4 with fail
     obtain⟨V,hV,y7,bV,OA⟩:=ho;rw[<-hV];have m0:=fw y7 n0;have m1:=fw y7 n1;have ml:=fw y7 kl;have mr:=fw y7 kr;have QJ:=fw y7 SV;have QI:=fw y7 SS;have mw0:=fw y7 kw0;have mw1:=fw y7 kw1;have HXV:=aW y7;clear n0 n1 kl kr SV SS kw0 kw1 kb0 kb2 hV bV OA y7;go_upto_region 10 with fail
     go_cut [9,10] (λu v wc=>∃pA pB,u=.pointer (some ⟨pA,0,none⟩)/\v=.pointer (some ⟨pB,0,none⟩)/\Ext V wc/\wc.cell? ⟨pA,0,none⟩=some (.int .i64 ta)/\wc.cell? ⟨pA,1,none⟩=some (.int .i64 (pa:Int))/\wc.cell? ⟨pB,0,none⟩=some (.int .i64 tc)/\wc.cell? ⟨pB,1,none⟩=some (.int .i64 (pc:Int)))
     case first=>
      refine oJ (λU=>(U.cell? ⟨w.heap.size,0,none⟩=some (.slice (some ⟨bL,oL,none⟩) 1 cL)/\U.cell? ⟨w.heap.size,1,none⟩=some (.slice (some ⟨bR,oR,none⟩) 1 cR))/\(U.cell? ⟨bL,oL,none⟩=some (.int .i64 ((x:Nat):Int))/\U.cell? ⟨bR,oR,none⟩=some (.int .i64 ((y:Nat):Int)))/\(U.cell? ⟨gv,x*2,none⟩=some (.int .i64 ta)/\U.cell? ⟨gv,x*2+1,none⟩=some (.int .i64 (pa:Int)))/\U.cell? ⟨gv,y*2,none⟩=some (.int .i64 tc)/\U.cell? ⟨gv,y*2+1,none⟩=some (.int .i64 (pc:Int))) [17] Vm ⟨⟨m0,m1⟩,⟨ml,mr⟩,⟨QJ,QI⟩,mw0,mw1⟩ (λaj ae=>?_);(refine bP 0 aj ae ?_;refine bP 1 aj ae ?_;refine bP 2 aj ae ?_;refine bP 3 aj ae ?_;refine bP 4 aj ae ?_;refine bP 5 aj ae ?_;refine bP 6 aj ae ?_;refine bP 7 aj ae ?_;refine bP 8 aj ae ?_;refine bP 9 aj ae ?_;refine bP 10 aj ae ?_;refine bP 11 aj ae ?_;refine bP 12 aj ae ?_;refine bP 13 aj ae ?_);refine gX aj (i:=14) (j:=15) (by kernel_rfl) ?_ ?_
      ·(refine ui (i:=14) λK hK=>?_;go_simp)
       (refine hK.out _ _ (λ_=>?_) ?_)
       .exact⟨⟨aI m0 _,aI m1 _⟩,⟨aI ml _,aI mr _⟩,⟨aI QJ _,aI QI _⟩,aI mw0 _,aI mw1 _⟩
       clear hK K;(try simp only[nP]);(refine jv aj (i:=15) λK hK=>?_;go_simp);(refine hK.out _ _ (λ_=>?_) ?_)
       .exact⟨⟨aI (aI m0 _) _,aI (aI m1 _) _⟩,⟨aI (aI ml _) _,aI (aI mr _) _⟩,⟨aI (aI QJ _) _,aI (aI QI _) _⟩,aI (aI mw0 _) _,aI (aI mw1 _) _⟩
       clear hK K;(try simp only[nP]);(refine jv aj (i:=16) λK hK=>?_;go_simp);(refine hK.out _ _ (λ_=>?_) ?_)
       .exact⟨⟨aI (aI m0 _) _,aI (aI m1 _) _⟩,⟨aI (aI ml _) _,aI (aI mr _) _⟩,⟨aI (aI QJ _) _,aI (aI QI _) _⟩,aI (aI mw0 _) _,aI (aI mw1 _) _⟩
       clear hK K;(try simp only[nP]);refine nQ aj [17] [_] ?_;clear aj ae;go_wp2
       go_meet
       exact⟨V.heap.size,V.heap.size+1,rfl,rfl,ah (bY (bY (gz _ _) _) _) (dQ ⟨1,rfl⟩),aI (new2_0 V _ _ _) _,aI (new2_1 V _ _ _) _,new3_0 V _ _ _ _,new3_1 V _ _ _ _⟩
      ·(refine ui (i:=15) λK hK=>?_;go_simp)
       (refine hK.out _ _ (λ_=>?_) ?_)
       .exact⟨⟨aI m0 _,aI m1 _⟩,⟨aI ml _,aI mr _⟩,⟨aI QJ _,aI QI _⟩,aI mw0 _,aI mw1 _⟩
       clear hK K;(try simp only[nP]);(refine jv aj (i:=14) λK hK=>?_;go_simp);(refine hK.out _ _ (λ_=>?_) ?_)
       .exact⟨⟨aI (aI m0 _) _,aI (aI m1 _) _⟩,⟨aI (aI ml _) _,aI (aI mr _) _⟩,⟨aI (aI QJ _) _,aI (aI QI _) _⟩,aI (aI mw0 _) _,aI (aI mw1 _) _⟩
       clear hK K;(try simp only[nP]);(refine jv aj (i:=16) λK hK=>?_;go_simp);(refine hK.out _ _ (λ_=>?_) ?_)
       .exact⟨⟨aI (aI m0 _) _,aI (aI m1 _) _⟩,⟨aI (aI ml _) _,aI (aI mr _) _⟩,⟨aI (aI QJ _) _,aI (aI QI _) _⟩,aI (aI mw0 _) _,aI (aI mw1 _) _⟩
       clear hK K;(try simp only[nP]);refine nQ aj [17] [_] ?_;clear aj ae;go_wp2
       go_meet
       exact⟨V.heap.size+1,V.heap.size,rfl,rfl,ah (bY (bY (gz _ _) _) _) (dQ ⟨1,rfl⟩),new3_0 V _ _ _ _,new3_1 V _ _ _ _,aI (new2_0 V _ _ _) _,aI (new2_1 V _ _ _) _⟩
     case rest=>
      clear m0 m1 ml mr QJ QI mw0 mw1;obtain⟨pA,pB,rfl,rfl,Cx,u0,u1,v0,v1⟩:=hcut;have HXC:=aW (ah HXV.out Cx);by_cases hac:a<c
      .have gac:decide (sc ta pa<sc tc pc)=true:=by rw[Uo.out.1,Uo.out.2];simp;omega
       have hj:=U0 HVB.out.2 hac;have HBB:=aW (HBT.out (HVB.out.1 hac));obtain⟨kt,hkt⟩:=fu ((if dS (mY a c) (pI a c)then(mY a c)else 0));obtain⟨kp,hkp⟩:=fu ((if dS (mY a c) (pI a c)then(pI a c)else 0));obtain⟨kb,hkb⟩:=fu (dS (mY a c) (pI a c));have hIf:∀V,Calls prog 223 #[tY (mY a c) (pI a c)] V λe w'=>e=.returned (.tuple #[.agg #[.int .i64 kt,.int .i64 (kp:Int)],.bool kb])/\Ext V w':=λV=>by
        have en:mD (mY a c) (pI a c)=.tuple #[.agg #[.int .i64 kt,.int .i64 (kp:Int)],.bool kb]:=(by rw[mD,hkt,hkp,hkb];rfl);have h:=Fe (mY a c) (pI a c) V;rw[en]at h;exact h
       have HIF:=aW hIf;have HJ:Hid ((kb=true->∃j,Val (vl C k) j/\kt=dO 16 j/\kp=dP 16 j)/\(kb=false->¬N0 (vl C k))):=aW ⟨λq=>by
        rw[hkb]at q;obtain⟨j,h1,h2,h3⟩:=hj.1 q;exact⟨j,h1,by rw[hkt,if_pos q];exact h2,by rw[hkp,if_pos q];exact h3⟩,λq=>hj.2 (by rw[<-hkb];exact q)⟩
       clear hj hkt hkp hkb hIf;clear Cx;go_upto_region 13 with(go_at_call 157;refine(XQ.out _).mono ?_;rintro e w3 ⟨he,hx3⟩;rw[gac]at he;subst he)
       have t0:=fw hx3 u0;have t1:=fw hx3 u1;have t2:=fw hx3 v0;have t3:=fw hx3 v1;have P7:=aW hx3;clear u0 u1 v0 v1 hx3
       go_wp2_with (first
        |(go_at_call 223;refine(HIF.out _).mono ?_;rintro e w5 ⟨rfl,hx5⟩
          have Pp:=ah HXC.out (ah P7.out (ah hx4 hx5));have hrz:=ik Pp HB.out.2;obtain⟨q0,q1,q2,q3⟩:=eZ hrz;have q4:=(q2 (.int .i64 kt)).1;have q5:=(q2 (.int .i64 kt)).2;have HQ:=aW (q3 (.int .i64 kt) (.int .i64 (kp:Int)));have HEZ:=aW Pp;clear q2 q3 hrz Pp
          skip)
        |(go_at_call 224;refine(HBB.out _).mono ?_;rintro e w4 ⟨rfl,hx4⟩))
       refine mg (w.heap.size+1) 34 #[.int .i64 kt,.int .i64 (kp:Int)] HQ.out underlying34 ?_;exact⟨kt,kp,kb,rfl,HJ.out.1,HJ.out.2,ll (ll (ah HX.out HEZ.out) (w.heap.size+1) 0 _) (w.heap.size+1) 1 _⟩
      .have gac:decide (sc ta pa<sc tc pc)=false:=by rw[Uo.out.1,Uo.out.2];simp;omega
       have rq:Hid (¬N0 (vl C k)):=aW λ⟨j,hj⟩=>hac ((HVB.out.2 j).1 hj).1
       clear Cx;go_upto_region 12 with(go_at_call 157;refine(XQ.out _).mono ?_;rintro e w3 ⟨he,hx3⟩;rw[gac]at he;subst he)
       have hrz:=ik (ah HXC.out hx3) HB.out.2;obtain⟨q0,q1,q2,q3⟩:=eZ hrz;have q4:=(q2 (.int .i64 0)).1;have q5:=(q2 (.int .i64 0)).2;have HQ:=aW (q3 (.int .i64 0) (.int .i64 0));have HEZ:=aW (ah HXC.out hx3);clear q2 q3 hrz hx3 u0 u1 v0 v1;go_wp2
       refine mg (w.heap.size+1) 34 #[.int .i64 0,.int .i64 0] HQ.out underlying34 ?_;exact⟨0,0,false,rfl,(λh=>by cases h),λ_=>rq.out,ll (ll (ah HX.out HEZ.out) (w.heap.size+1) 0 _) (w.heap.size+1) 1 _⟩
