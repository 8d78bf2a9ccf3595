/-
  Contracts of the statement's own functions on boards: markText, markStringS, toBoard, szBoard, eqBoard, markBoard. (3 texts.)
-/
import Derived.Test.YteknjeohbcgpdaaGreatDoorZ13
import Derived.Test.YteknjeohbcgpdaaGreatDoorZ15
import Derived.Test.YteknjeohbcgpdaaGreatDoorZ16
import Derived.Laws.Rows
import Derived.Lib.SlicesS
import Derived.Laws.Concat
import Derived.Laws.IdiomStrings
set_option maxRecDepth 100000
namespace Go.Proofs.YteknjeohbcgpdaaGreatDoor
open Tryz
section
open Go.RowKit
open Cgt (Brd GB bD Cs)
theorem iD {a b c:World} {G:Nat→Prop} (h:Ext a b) (k:bg G b c) (hG:∀ x,G x→a.heap.size≤x):Ext a c :=
 ⟨k.os.trans h.os,k.tape.trans h.tape,k.output.trans h.output,Nat.le_trans h.size k.size,fun x hx=>(k.block x (Nat.lt_of_lt_of_le hx h.size) (fun g=>Nat.not_le.2 hx (hG x g))).trans (h.block x hx)⟩
theorem E8 {wr w5:World} {p B:Nat} {ov v5:Value} {X:Obj} {T e:TypeId} {n:Nat} {ys:List Value} (hb:wr.heap[p]?=some (.cells #[ov] T (0,0))) (hov:∀ b,ov.ownBlock=some b→p<b) (hB:p<B)
 (ho:w5.ownsRow B e 1 v5 n ys) (hg:(wr.alloc X).grownBy w5 ov.ownBlock) :
 (w5.setCell ⟨p,0,none⟩ v5).heap[p]?=some (.cells #[v5] T (0,0))∧(w5.setCell ⟨p,0,none⟩ v5).ownsRow B e 1 v5 n ys∧w5.cell? ⟨p,0,none⟩=some ov∧w5.frozen? ⟨p,0,none⟩=false∧bg (fun b=>b=p∨ov.ownBlock=some b) wr (w5.setCell ⟨p,0,none⟩ v5):=by
 have hp:=ah hb
 have hz:(wr.alloc X).heap.size=wr.heap.size+1:=sA_ _ _
 have hz5:=hg.size
 have h5:w5.heap[p]?=some (.cells #[ov] T (0,0)):=by
  rw[hg.block p (by omega) (fun e=>by have:=hov p e.symm;omega),Below.heap_alloc _ _ _ hp];exact hb
 have hks:=bJ (w:=w5) (p:=⟨p,0,none⟩) (v:=v5)
 refine⟨heap_setCell_same _ _ _ _ _ _ h5,aI ho hks (fun b hb q=>?_),cell_of_row w5 p 0 _ _ _ h5,frozen_of_row w5 p 0 _ _ h5,?_⟩
 · have:=(ho.lt b hb).1;have q':b=p:=q;omega
 · exact⟨hks.os.trans hg.os,hks.tape.trans hg.tape,hks.output.trans hg.output,by have:=hks.size;omega,fun b hb hn=>by
    rw[hks.block b (by omega) (fun q=>hn (.inl q)),hg.block b (by omega) (fun q=>hn (.inr q.symm)),Below.heap_alloc _ _ _ hb]⟩
def chB (x:Bool):UInt8:=if x then 46 else 35
def jC (r:List Bool):List UInt8:=r.map chB
def eH (cl:Cl):Brd:=cl.map jC
theorem AV {cl:Cl} {hh ww:Nat} (s:Sz cl hh ww) (h1:1≤hh∧hh≤8) (w1:1≤ww∧ww≤8):GB (eH cl) hh ww:=by
 refine⟨by simp[eH,s.hgt],h1,w1,fun r hr=>?_⟩
 obtain⟨q,hq,rfl⟩:=List.mem_map.1 hr
 refine⟨by simp[jC,s.row q hq],fun c hc=>?_⟩
 obtain⟨x,_,rfl⟩:=List.mem_map.1 hc
 cases x
 · exact .inr rfl
 · exact .inl rfl
theorem qF (cl:Cl):Cgt.fr (eH cl)=gcs cl:=by
 funext r c
 unfold gcs gat Cgt.fr Cgt.at_ eH
 rw[List.getD_eq_getElem?_getD (l:=cl.map jC),List.getD_eq_getElem?_getD (l:=cl),List.getElem?_map]
 cases cl[r]? with
 | none=>simp
 | some s =>
   simp only[Option.map_some,Option.getD_some,jC]
   rw[List.getD_eq_getElem?_getD,List.getD_eq_getElem?_getD,List.getElem?_map]
   cases s[c]? with
   | none=>rfl
   | some x=>cases x <;> rfl
theorem IQ {r:List Bool} {k:Nat} (h:k<r.length):jC (r.take (k+1))=jC (r.take k)++[chB r[k]]:=by
 unfold jC;rw[List.take_succ_eq_append_getElem h,List.map_append];rfl
theorem Em {cl:Cl} {k:Nat} (h:k<cl.length):eH (cl.take (k+1))=eH (cl.take k)++[jC cl[k]]:=by
 unfold eH;rw[List.take_succ_eq_append_getElem h,List.map_append];rfl
theorem pK:(prog.info? 9).map (fun i=>(i.zero,i.size,i.bytes))=some (some (.string ⟨#[]⟩),1,16):=by kernel_rfl
theorem BV {s:ByteArray}:∀ u∈([Value.string s]:List Value),u.oneCell'=true:=by
 intro u hu;simp at hu;subst hu;rfl
def Kc (b:Brd) (w:World) (e:Ending) (w':World):Prop :=
 ∃ v' ss',e=.returned (.agg #[v'])∧w'.ownsRow w.heap.size 9 1 v' ss'.length (ss'.map Value.string)∧bd ss'=b∧Ext w w'
set_option maxHeartbeats 4000000 in
theorem pJ (v:Value) (sl:Nat→Value) (cl:Cl) (hh ww B:Nat) (w:World) (hG:Gr w B v sl cl) (s:Sz cl hh ww) (h1:1≤hh∧hh≤8) (w1:1≤ww∧ww≤8) :
 Calls prog 127 #[v] w (Kc (eH cl) w):=by
 obtain⟨i0,hi0,hz0,hz1,hz2⟩:=info_parts pK
 have hl:=s.hgt
 obtain⟨av,cv,rfl,-,-⟩:=hG.len
 rw[hl] at hG ⊢
 have hb1:((w.alloc (.cells #[.slice none 0 0] 31)).alloc (.cells #[.slice none 0 0] 31)).heap[w.heap.size]?=some (.cells #[.slice none 0 0] 31 (0,0)):=by
  rw[Below.heap_alloc _ _ _ (by simp)];exact heap_alloc_new _ _
 have hb2:((w.alloc (.cells #[.slice none 0 0] 31)).alloc (.cells #[.slice none 0 0] 31)).heap[w.heap.size+1]?=some (.cells #[.slice none 0 0] 31 (0,0)):=by
  have h:=heap_alloc_new (w.alloc (.cells #[.slice none 0 0] 31)) (.cells #[.slice none 0 0] 31);rw[sA_] at h;exact h
 have hx2:Ext w ((w.alloc (.cells #[.slice none 0 0] 31)).alloc (.cells #[.slice none 0 0] 31)):=by go_grown
 have HG:=Hd_ hG
 have HS:=Hd_ s
 clear hG s hl
 go_enter Tryz.func127,Tryz.ntmps127
 go_wp2
 have hz2:((w.alloc (.cells #[.slice none 0 0] 31)).alloc (.cells #[.slice none 0 0] 31)).heap.size=w.heap.size+2:=by rw[sA_,sA_]
 generalize (w.alloc (.cells #[.slice none 0 0] 31)).alloc (.cells #[.slice none 0 0] 31)=W at *
 go_loopw [4,5,6] (fun ii _ _ wr=>∃ (i:Nat) (ov:Value) (ss:List ByteArray),ii=.int .i64 ((i:Nat):Int)∧i≤hh∧wr.heap[w.heap.size]?=some (.cells #[.slice none 0 0] 31 (0,0))∧wr.heap[w.heap.size+1]?=some (.cells #[ov] 31 (0,0))∧wr.ownsRow (w.heap.size+2) 9 1 ov ss.length (ss.map Value.string)∧Ext w wr∧Hid (bd ss=eH (cl.take i))) (fun ii _ _ _=>hh-(intOf ii).toNat)
 case atStart=>exact⟨0,_,[],rfl,Nat.zero_le _,hb1,hb2,⟨by simp,.inl ⟨rfl,rfl⟩⟩,hx2,Hd_ (by simp[bd,eH])⟩
 case round =>
  clear hb1 hb2 hx2 hz2
  obtain⟨i,ov,ss,rfl,hi,hb1,hb2,ho,hE,HB⟩:=hrel
  have hlen:ss.length=i:=by
   have:=congrArg List.length HB.out
   simp only[eH,List.length_map,List.length_take,dS] at this
   have:=HS.out.hgt;omega
  have c0:=cell_of_row wr (w.heap.size+1) 0 _ _ _ hb2
  simp only[gE] at c0
  by_cases hlt:i<hh
  · have hil:((i:Nat):Int)<((hh:Nat):Int):=by omega
    have hli:i<cl.length:=by have:=HS.out.hgt;omega
    have hGr:=HG.out.ext hE
    obtain⟨gt,ct,et,hct⟩:=hGr.top hli
    rw[HS.out.hgt] at et
    simp only[Value.slice.injEq,true_and] at et
    obtain⟨rfl,rfl⟩:=et
    obtain⟨ar,cr,er,-⟩:=hGr.FJ hli
    have hw:=HS.out.at hli
    rw[er,hw] at hct
    rw[hw] at er
    have HER:=Hd_ er
    have HTK:=Hd_ (Em hli)
    obtain⟨ri,eri⟩:∃ ri:List Bool,cl[i]=ri:=⟨_,rfl⟩
    rw[eri] at HTK hw
    have Ie:=Hd_ eri
    have HGR:=Hd_ hGr
    have HLI:=Hd_ hli
    have HWI:=Hd_ hw
    have HLEN:=Hd_ hlen
    have HE:=Hd_ hE
    clear er eri hGr hw hlen hE
    go_wp2
    obtain⟨wo,hwo⟩:∃ wo,wo=wr:=⟨_,rfl⟩
    rw[← hwo]
    go_loopw [5,6] (fun sv kk wr=>∃ (k:Nat) (so:ByteArray),kk=.int .i64 ((k:Nat):Int)∧k≤ww∧sv=.string so∧wo=wr∧Hid (bdr so=jC (ri.take k))) (fun _ kk _=>ww-(intOf kk).toNat)
    case atStart=>exact⟨0,⟨#[]⟩,rfl,Nat.zero_le _,rfl,rfl,Hd_ (by simp[bdr,jC])⟩
    case round =>
     obtain⟨k,so,rfl,hk,rfl,hwr,HQ⟩:=hrel
     subst hwr
     subst hwo
     have hso:so.size≤8:=by
      have h2:(bdr so).length=_:=congrArg List.length HQ.out
      rw[gJ,jC,List.length_map,List.length_take] at h2;omega
     by_cases hkl:k<ww
     · have hkl':((k:Nat):Int)<((ww:Nat):Int):=by omega
       have hkr:k<ri.length:=by have:=HWI.out;omega
       have qA:k<(cl[i]'HLI.out).length:=by rw[Ie.out];exact hkr
       obtain⟨g2,c2,e2,hb,-⟩:=HGR.out.cell HLI.out qA
       rw[HER.out] at e2
       have hww:(cl[i]'HLI.out).length=ww:=by rw[Ie.out];exact HWI.out
       rw[hww] at e2
       simp only[Value.slice.injEq,true_and] at e2
       obtain⟨rfl,rfl⟩:=e2
       have hbv:(cl[i]'HLI.out)[k]=ri[k]:=by congr 1
       rw[hbv] at hb
       have HRT:=Hd_ (IQ hkr)
       have hs1:(⟨#[46]⟩:ByteArray).size=1:=rfl
       have hs2:(⟨#[35]⟩:ByteArray).size=1:=rfl
       have HC1:=fun W:World=>run_string_add_sum (P:=prog) (w:=W) so ⟨#[46]⟩ (by omega)
       have HC2:=fun W:World=>run_string_add_sum (P:=prog) (w:=W) so ⟨#[35]⟩ (by omega)
       cases hbk:ri[k] with
       | true =>
         rw[hbk] at hb HRT
         have HN:Hid (bdr (so++⟨#[46]⟩)=jC (ri.take (k+1))):=by
          show _=_
          rw[HRT.out,← HQ.out];unfold bdr;rw[ByteArray.data_append,Array.toList_append];rfl
         clear hbk hbv hso hs1 hs2 qA hww hkr
         go_wp2
         go_roundw
         case rel=>exact⟨k+1,_,by go_num,by omega,rfl,trivial,HN⟩
         case measure=>simp[intOf];omega
       | false =>
         rw[hbk] at hb HRT
         have HN:Hid (bdr (so++⟨#[35]⟩)=jC (ri.take (k+1))):=by
          show _=_
          rw[HRT.out,← HQ.out];unfold bdr;rw[ByteArray.data_append,Array.toList_append];rfl
         clear hbk hbv hso hs1 hs2 qA hww hkr
         go_wp2
         go_roundw
         case rel=>exact⟨k+1,_,by go_num,by omega,rfl,trivial,HN⟩
         case measure=>simp[intOf];omega
     · have hkl':¬ (((k:Nat):Int)<((ww:Nat):Int)):=by omega
       have hke:k=ww:=by omega
       have HKE:=Hd_ hke
       obtain⟨ao,co,rfl,-,-⟩:=az ho
       have hn8:ss.length≤8:=by have:=HLEN.out;omega
       have hze:=HE.out.size
       have hzp:=ah hb2
       have hba:=fun (w5:World) (v5:Value) (n:Nat) (ys:List Value) (X:Obj) (h1:w5.ownsRow (w.heap.size+2) 9 1 v5 n ys) (h2:(wo.alloc X).grownBy w5 (Value.slice ao ss.length co).ownBlock)=>E8 hb2 (fun b hb=>by have:=(ho.lt b hb).1;omega) (by omega) h1 h2
       clear hke hkl hso
       go_wp2_with (at_builtin;refine aW rfl (.tmp 35) (.tmp 37) 22 rfl (w.heap.size+2) 9 i0 (.string ⟨#[]⟩) 1 16 underlying22 hi0 hz0 hz1 hz2 rfl (by decide) (.slice ao ss.length co) ss.length _ rfl (ho.alloc _) _ 1 _ [.string so] rfl rfl (.inr ⟨_,rfl,bq (aO _ _ _)⟩) BV (by unfold maxLen;omega) (by omega) (by rw[sA_];omega) ?_;intro v5 w5 ho5 hg5 hl5;obtain⟨x5,y5,rfl,-,-⟩:=az ho5;obtain⟨q1,q2,q3,q4,q5⟩:=hba w5 _ _ _ _ ho5 hg5)
       go_roundw
       case rel =>
        refine⟨i+1,_,ss++[so],by go_num,by omega,?_,q1,by rw[List.length_append,List.map_append];exact q2,iD HE.out q5 (fun x hx=>?_),Hd_ ?_⟩
        · rw[q5.block _ (ah hb1) (fun hx=>?_)]
          · exact hb1
          · rcases hx with hx | hx
            · omega
            · have:=(ho.lt _ hx).1;omega
        · rcases hx with hx | hx
          · omega
          · have:=(ho.lt _ hx).1;omega
        · rw[HTK.out,← HB.out]
          have e:bdr so=jC ri:=by rw[HQ.out,List.take_of_length_le (by have:=HWI.out;have:=HKE.out;omega)]
          rw[← e];simp[bd]
       case measure=>simp[intOf];omega
  · have hil:¬ (((i:Nat):Int)<((hh:Nat):Int)):=by omega
    have hie:i=hh:=by omega
    have HIE:=Hd_ hie
    obtain⟨ao,co,rfl,-,-⟩:=az ho
    have hr1:=frozen_of_row wr w.heap.size 0 _ _ hb1
    have r0:=cell_of_row wr w.heap.size 0 _ _ _ hb1
    simp only[gE] at r0
    have HH:=Hd_ (heap_setCell_same wr w.heap.size 0 _ _ (.slice ao ss.length co) hb1)
    have hks:=Hd_ (bJ (w:=wr) (p:=⟨w.heap.size,0,none⟩) (v:=.slice ao ss.length co))
    clear hie hlt hlen
    go_wp2
    (try simp only[Exit.inBlock,Exit.then])
    refine bodyPost_ret (results_cell_row rfl _ _ w.heap.size 31 #[.slice ao ss.length co] (0,0) _ rfl HH.out underlying31 rfl (by kernel_rfl)) rfl ?_
    refine⟨_,ss,rfl,ic (aI ho hks.out (fun b hb q=>?_)) (by omega),?_,hE.setCell (p:=⟨w.heap.size,0,none⟩) (Nat.le_refl _) _⟩
    · have:=(ho.lt b hb).1;have q':b=w.heap.size:=q;omega
    · rw[HB.out,HIE.out,List.take_of_length_le (by have:=HS.out.hgt;omega)]
end
section
open Go.RowKit
theorem Ji (n:Nat):(madeCells #[Value.string ⟨#[]⟩] n).toList=(List.replicate n (⟨#[]⟩:ByteArray)).map Value.string:=by
 apply List.ext_getElem?
 intro i
 by_cases h:i<n
 · simp[madeCells,h,Nat.mod_one]
 · simp[madeCells,h]
theorem EA {w:World} {base e g n cap:Nat} {l:List ByteArray} (h:w.ownsRow base e 1 (.slice (some ⟨g,0,none⟩) n cap) n (l.map Value.string)) (k:Nat) (x:ByteArray) :
 (w.setCell ⟨g,k,none⟩ (.string x)).ownsRow base e 1 (.slice (some ⟨g,0,none⟩) n cap) n ((l.set k x).map Value.string):=by
 have:=(h.stored k (.string x)).1;rw[List.map_set];exact this
theorem BC {w:World} {base e g n cap:Nat} {l:List ByteArray} (h:w.ownsRow base e 1 (.slice (some ⟨g,0,none⟩) n cap) n (l.map Value.string)) {k:Nat} (hk:k<l.length):w.cell? ⟨g,k,none⟩=some (.string l[k]):=by
 have hl:=h.1
 rw[h.cellAt k (by rw[List.length_map] at hl;omega)]
 simp[hk]
theorem II {l:List ByteArray} {r:List ByteArray} {k:Nat} (hr:0<r.length) (hk:k<l.length):(l.take k++r).set k l[k]=l.take (k+1)++r.drop 1:=by
 rw[List.set_append_right _ _ (by rw[List.length_take];omega),List.length_take,Nat.min_eq_left (by omega),Nat.sub_self,List.take_succ_eq_append_getElem hk,List.append_assoc]
 cases r with
 | nil=>simp at hr
 | cons a r=>rfl
set_option maxHeartbeats 1000000 in
theorem AZ (v:Value) (ss:List ByteArray) (w:World) (h:Strs w v ss) (hl:ss.length≤1048576) :
 Calls prog 40 #[v] w fun e w'=>∃ v',e=.returned v'∧w'.ownsRow w.heap.size 9 1 v' ss.length (ss.map Value.string)∧Ext w w':=by
 obtain⟨i0,hi0,hz0,hz1,hz2⟩:=info_parts pK
 obtain⟨a,cap,rfl,hlc,hcap⟩:=h.open
 have hmk:=fun w:World=>run_make (P:=prog) w 22 9 i0 (.string ⟨#[]⟩) underlying22 hi0 hz0 .i64 .i64 (ss.length:Int) (ss.length:Int) (by omega) (by omega) (by rw[hz2];omega) (by omega)
 simp only[hz1,Nat.mul_one,Int.toNat_natCast] at hmk
 go_enter Tryz.func40,Tryz.ntmps40
 go_wp2
 have ho:(w.alloc (.cells (madeCells #[Value.string ⟨#[]⟩] ss.length) 9)).ownsRow w.heap.size 9 1 (.slice (some ⟨w.heap.size,0,none⟩) ss.length ss.length) ss.length ((List.replicate ss.length (⟨#[]⟩:ByteArray)).map Value.string):=by
  rw[← Ji];exact World.ownsRow_lit w _ _ (Nat.le_refl _) (by unfold maxLen;omega) (by rw[size_madeCells];simp)
 have hx:Ext w (w.alloc (.cells (madeCells #[Value.string ⟨#[]⟩] ss.length) 9)):=by go_grown
 generalize w.alloc (.cells (madeCells #[Value.string ⟨#[]⟩] ss.length) 9)=W0 at *
 clear hmk
 go_loopw [4] (fun ii wr=>∃ k,k≤ss.length∧ii=.int .i64 ((k:Nat):Int)∧Ext w wr∧wr.ownsRow w.heap.size 9 1 (.slice (some ⟨w.heap.size,0,none⟩) ss.length ss.length) ss.length ((ss.take k++List.replicate (ss.length-k) (⟨#[]⟩:ByteArray)).map Value.string)) (fun ii _=>ss.length-(intOf ii).toNat)
 case atStart=>exact⟨0,Nat.zero_le _,rfl,hx,by simpa using ho⟩
 case round =>
  clear hx ho
  obtain⟨k,hk,rfl,hE,ho⟩:=hrel
  by_cases hlt:k<ss.length
  · have h1:((k:Nat):Int)<(ss.length:Int):=by omega
    obtain⟨b,off,rfl,hcell⟩:=(h.ext hE).at hlt
    have hck:=hcell k hlt
    have cj:=BC ho (k:=k) (by simp;omega)
    have fj:=ho.frozenAt k
    have hs:=EA ho k ss[k]
    rw[II (by simp;omega) hlt,List.drop_replicate,Nat.sub_sub] at hs
    have HS:=Hd_ hs
    have HX:=Hd_ (hE.setCell (p:=⟨w.heap.size,k,none⟩) (Nat.le_refl _) (.string ss[k]))
    have HLT:=Hd_ hlt
    clear hcell hs ho hE
    generalize ss[k]=sk at *
    go_wp2
    go_roundw
    case rel=>exact⟨k+1,by have:=HLT.out;omega,by go_num,HX.out,HS.out⟩
    case measure=>have:=HLT.out;simp[intOf];omega
  · have h1:¬ (((k:Nat):Int)<(ss.length:Int)):=by omega
    have hke:k=ss.length:=by omega
    subst hke
    have ho2:wr.ownsRow w.heap.size 9 1 (.slice (some ⟨w.heap.size,0,none⟩) ss.length ss.length) ss.length (ss.map Value.string):=by
     rw[List.take_of_length_le (Nat.le_refl _),Nat.sub_self,List.replicate_zero,List.append_nil] at ho;exact ho
    have HO:=Hd_ ho2
    clear ho ho2
    go_wp2
    go_ret
    exact⟨_,rfl,HO.out,hE⟩
def szR:List ByteArray→Int→Int
 | [],left=>left
 | s :: t,left=>if left-s.size<0 then -1 else szR t (left-s.size)
def szS (ss:List ByteArray) (left:Int):Int:=if left-ss.length<0 then -1 else szR ss (left-ss.length)
theorem Ez:∀ {ss:List ByteArray} {left:Int},0≤szR ss left→(∀ s,s∈ss→(s.size:Int)≤left)∧szR ss left≤left
 | [],_,_=>⟨fun _ h=>(by cases h),Int.le_refl _⟩
 | s :: t,left,h=>by
   unfold szR at h ⊢
   by_cases c:left-s.size<0
   · rw[if_pos c] at h;omega
   · rw[if_neg c] at h ⊢
     obtain⟨h1,h2⟩:=Ez h
     refine⟨fun x hx=>?_,by omega⟩
     rcases List.mem_cons.1 hx with rfl | hx
     · omega
     · have:=h1 x hx;omega
theorem N7 {ss:List ByteArray} {left:Int} (h:0≤szS ss left):(ss.length:Int)≤left∧∀ s,s∈ss→(s.size:Int)≤left:=by
 unfold szS at h
 by_cases c:left-ss.length<0
 · rw[if_pos c] at h;omega
 · rw[if_neg c] at h
   exact⟨by omega,fun s hs=>by have:=(Ez h).1 s hs;omega⟩
set_option maxHeartbeats 1000000 in
theorem tK (v:Value) (ss:List ByteArray) (left:Int) (w:World) (h:Strs w v ss) (h0:0≤left) (h1:left≤1048576) (hs:∀ s,s∈ss→s.size≤9223372036854775807) :
 Calls prog 36 #[v,.int .i64 left] w fun e w'=>e=.returned (.int .i64 (szS ss left))∧RD w w':=by
 obtain⟨a,cap,rfl,hlc,hcap⟩:=h.open
 by_cases hn:left-ss.length<0
 · have HR:=Hd_ (show szS ss left=-1 from by unfold szS;rw[if_pos hn])
   go_enter Tryz.func36,Tryz.ntmps36
   go_wp2
   go_ret
   exact⟨fw HR.out.symm,rd0 _⟩
 · have HR:=Hd_ (show szS ss left=szR ss (left-ss.length) from by unfold szS;rw[if_neg hn])
   go_enter Tryz.func36,Tryz.ntmps36
   go_wp2
   go_loopw [1,5] (fun lv ii wr=>∃ (k:Nat) (lf:Int),ii=.int .i64 ((k:Nat):Int)∧lv=.int .i64 lf∧k≤ss.length∧0≤lf∧lf≤1048576∧Hid (szS ss left=szR (ss.drop k) lf)∧RD w wr) (fun _ ii _=>ss.length-(intOf ii).toNat)
   case atStart=>exact⟨0,_,rfl,rfl,Nat.zero_le _,by omega,by omega,Hd_ (by rw[HR.out];rfl),rd0 _⟩
   case round =>
    obtain⟨k,lf,rfl,rfl,hk,hl0,hl1,HL,⟨n,rfl⟩⟩:=hrel
    by_cases hlt:k<ss.length
    · have hq:((k:Nat):Int)<((ss.length:Nat):Int):=by omega
      obtain⟨b,off,rfl,hc⟩:=h.at hlt
      have ck:=hc k hlt
      have hsk:=hs _ (List.getElem_mem hlt)
      have HD:=Hd_ (List.drop_eq_getElem_cons hlt)
      have HLT:=Hd_ hlt
      clear hc
      generalize ss[k]=sk at *
      by_cases hneg:lf-sk.size<0
      · have HQ:=Hd_ (show szS ss left=-1 from by rw[HL.out,HD.out,szR,if_pos hneg])
        go_wp2
        go_ret
        exact⟨fw HQ.out.symm,(by first | exact rd0 _ | exact rd1 _ _ | exact rd2 _ _ _ | exact rd3 _ _ _ _)⟩
      · have HQ:=Hd_ (show szS ss left=szR (ss.drop (k+1)) (lf-sk.size) from by rw[HL.out,HD.out,szR,if_neg hneg])
        go_wp2
        go_roundw
        case rel=>exact⟨k+1,_,by go_num,rfl,by have:=HLT.out;omega,by omega,by omega,HQ,(by first | exact rd0 _ | exact rd1 _ _ | exact rd2 _ _ _ | exact rd3 _ _ _ _)⟩
        case measure=>have:=HLT.out;simp[intOf];omega
    · have hq:¬ (((k:Nat):Int)<((ss.length:Nat):Int)):=by omega
      have HQ:=Hd_ (show szS ss left=lf from by rw[HL.out,List.drop_of_length_le (by omega)];rfl)
      go_wp2
      go_ret
      exact⟨fw HQ.out.symm,(by first | exact rd0 _ | exact rd1 _ _ | exact rd2 _ _ _ | exact rd3 _ _ _ _)⟩
set_option maxHeartbeats 1000000 in
theorem Bh (v u:Value) (ss:List ByteArray) (w:World) (h:Strs w v ss) (k:Strs w u ss) :
 Calls prog 47 #[v,u] w fun e w'=>e=.returned (.bool true)∧RD w w':=by
 obtain⟨a,cap,rfl,hlc,hcap⟩:=h.open
 obtain⟨a2,cap2,rfl,SQ,hcap2⟩:=k.open
 go_enter Tryz.func47,Tryz.ntmps47
 go_wp2
 go_loopw [5] (fun ii wr=>∃ q:Nat,ii=.int .i64 ((q:Nat):Int)∧q≤ss.length∧RD w wr) (fun ii _=>ss.length-(intOf ii).toNat)
 case atStart=>exact⟨0,rfl,Nat.zero_le _,rd0 _⟩
 case round =>
  obtain⟨q,rfl,hq,⟨n,rfl⟩⟩:=hrel
  by_cases hlt:q<ss.length
  · have h1:((q:Nat):Int)<((ss.length:Nat):Int):=by omega
    obtain⟨b,off,rfl,hc⟩:=h.at hlt
    obtain⟨b2,UF,rfl,hc2⟩:=k.at hlt
    have ck:=hc q hlt
    have ck2:=hc2 q hlt
    have hbb:(ss[q].toList == ss[q].toList)=true:=(Lib.bytes_beq_iff _ _).2 rfl
    have hbn:(ss[q].toList != ss[q].toList)=false:=by simp
    have HLT:=Hd_ hlt
    clear hc hc2
    generalize ss[q]=sq at *
    go_wp2
    go_quiet (fail)
    go_wp2
    go_roundw
    case rel=>exact⟨q+1,by go_num,by have:=HLT.out;omega,(by first | exact rd0 _ | exact rd1 _ _ | exact rd2 _ _ _ | exact rd3 _ _ _ _)⟩
    case measure=>have:=HLT.out;simp[intOf];omega
  · have h1:¬ (((q:Nat):Int)<((ss.length:Nat):Int)):=by omega
    go_wp2
    go_ret
    exact⟨rfl,(by first | exact rd0 _ | exact rd1 _ _ | exact rd2 _ _ _ | exact rd3 _ _ _ _)⟩
end
section
open Go.RowKit
set_option maxHeartbeats 1000000 in
theorem Ce (k:Nat) (w:World) (hk:k≤1000000000) :
 Calls prog 89 #[.int .i64 ((k:Nat):Int)] w fun e w'=>∃ s,e=.returned (.string s)∧Ext w w':=by
 by_cases h0:k=0
 · have h1:((k:Nat):Int)≤0:=by omega
   go_enter Tryz.func89,Tryz.ntmps89
   go_wp2
   go_ret
   first | exact⟨_,rfl,Below.refl _ _⟩ | exact⟨⟨_,rfl⟩,Below.refl _ _⟩
 · have h1:¬ ((k:Nat):Int)≤0:=by omega
   go_enter Tryz.func89,Tryz.ntmps89
   go_wp2
   go_loopw [0,3] (fun kv ov wr=>∃ (n:Nat) (s:ByteArray),kv=.int .i64 ((n:Nat):Int)∧ov=.string s∧s.size+n≤k∧Ext w wr) (fun kv _ _=>(intOf kv).toNat)
   case atStart=>exact⟨k,⟨#[]⟩,rfl,rfl,by show 0+k≤k;omega,Below.refl _ _⟩
   case round =>
    obtain⟨n,s,rfl,rfl,hn,hE⟩:=hrel
    by_cases hp:0<n
    · have h2:(0:Int)<((n:Nat):Int):=by omega
      obtain⟨c,hc⟩:∃ c:ByteArray,(convert 38 9 (.slice (some ⟨wr.heap.size,0,none⟩) 1 1)).run prog (wr.alloc (.cells #[.int .u8 (48+((n:Nat):Int) % 10)] 5))=.ok (.string c) (wr.alloc (.cells #[.int .u8 (48+((n:Nat):Int) % 10)] 5))∧c.size=1:=by
       refine⟨⟨[UInt8.ofNat (48+n % 10)].toArray⟩,run_convert_bytes_back (P:=prog) _ _ _ 5 _ 1 [UInt8.ofNat (48+n % 10)] underlying38 underlying5 underlying9 fun j hj=>?_,rfl⟩
       have hj0:j=0:=by simp at hj;omega
       subst hj0
       have e:(⟨wr.heap.size,0,none⟩:Addr).add 0=⟨wr.heap.size,0,none⟩:=by unfold Addr.add;split <;> simp_all
       rw[e,cell_of_row _ wr.heap.size 0 _ _ (0,0) (heap_alloc_new wr _)]
       have:(UInt8.ofNat (48+n % 10)).toNat=48+n % 10:=by rw[UInt8.toNat_ofNat'];omega
       simp
       omega
      obtain⟨hcv,hcs⟩:=hc
      have hc1:=fun W:World=>run_string_add_sum (P:=prog) (w:=W) c s (by omega)
      have HX:Hid (Ext w (wr.alloc (.cells #[.int .u8 (48+((n:Nat):Int) % 10)] 5))):=Hd_ (aM hE _)
      have HQ:=Hd_ hn
      have hwq:wrap64 (((n:Nat):Int) / 10)=((n / 10:Nat):Int):=by unfold wrap64;omega
      clear hE hn
      go_wp2
      go_roundw
      case rel=>exact⟨n / 10,c++s,by rw[hwq],rfl,by rw[ByteArray.size_append,hcs];have:=HQ.out;omega,HX.out⟩
      case measure=>rw[hwq];simp only[intOf];omega
    · have h2:¬ (0:Int)<((n:Nat):Int):=by omega
      have hc1:=fun W:World=>run_string_add_sum (P:=prog) (w:=W) ⟨#[109]⟩ s (by show 1+s.size≤_;omega)
      go_wp2
      go_ret
      first | exact⟨_,rfl,hE⟩ | exact⟨⟨_,rfl⟩,hE⟩
theorem Jo (w:World) (g i n cap:Nat) (v:Value):bg (fun b=>Value.ownBlock (.slice (some ⟨g,0,none⟩) n cap)=some b) w (w.setCell ⟨g,i,none⟩ v):=by
 have h:=bJ (w:=w) (p:=⟨g,i,none⟩) (v:=v)
 exact⟨h.os,h.tape,h.output,h.size,fun k hk hn=>h.block k hk (fun e=>hn (by rw[e];rfl))⟩
set_option maxHeartbeats 1000000 in
theorem yu (v:Value) (ss:List ByteArray) (k:Nat) (B:Nat) (w:World) (h:w.ownsRow B 9 1 v ss.length (ss.map Value.string)) (hk:k+ss.length≤1000000000) :
 Calls prog 48 #[v,.int .i64 ((k:Nat):Int)] w fun e w'=>e=.returned (.int .i64 ((k+ss.length:Nat):Int))∧bg (fun b=>v.ownBlock=some b) w w':=by
 obtain⟨a,cap,rfl,-,-⟩:=az h
 go_enter Tryz.func48,Tryz.ntmps48
 go_wp2
 go_loopw [1,5] (fun kv ii wr=>∃ (i kk:Nat) (l:List ByteArray),ii=.int .i64 ((i:Nat):Int)∧kv=.int .i64 ((kk:Nat):Int)∧Hid (kk=k+i)∧i≤ss.length∧Hid (l.length=ss.length)∧wr.ownsRow B 9 1 (.slice a ss.length cap) ss.length (l.map Value.string)∧bg (fun b=>Value.ownBlock (.slice a ss.length cap)=some b) w wr) (fun _ ii _=>ss.length-(intOf ii).toNat)
 case atStart=>exact⟨0,k,ss,rfl,rfl,Hd_ rfl,Nat.zero_le _,Hd_ rfl,h,bZ (Below.refl _ _)⟩
 case round =>
  clear h
  obtain⟨i,kk,l,rfl,rfl,HKK,hi,HLL,ho,hK⟩:=hrel
  by_cases hlt:i<ss.length
  · have h1:((i:Nat):Int)<((ss.length:Nat):Int):=by omega
    obtain⟨g,cap',he,-,-,hc⟩:=dC ho (by omega)
    simp only[Value.slice.injEq] at he
    obtain⟨rfl,-,rfl⟩:=he
    have HLT:=Hd_ hlt
    have hki:kk≤1000000000:=by have:=HKK.out;omega
    have hi9:i≤1000000000:=by omega
    have HK:=Hd_ hK
    have HO:=Hd_ ho
    have hil:i<l.length:=by have:=HLL.out;omega
    have HIL:=Hd_ hil
    clear hlt hK hc ho hil
    go_wp2_with (go_at_call 89;refine(Ce kk _ hki).mono ?_;rintro e w2 ⟨s,rfl,hx⟩;have hc2:=BC (aJ HO.out hx) HIL.out;have hf2:=(aJ HO.out hx).frozenAt i)
    have hset:=EA (aJ HO.out hx) i s
    have hkp:bg (fun b=>Value.ownBlock (.slice (some ⟨g,0,none⟩) ss.length cap)=some b) w (w2.setCell ⟨g,i,none⟩ (.string s)):=(HK.out.trans (bZ hx) (fun _ _ h=>h)).trans (Jo w2 g i ss.length cap (.string s)) (fun _ _ h=>h)
    go_roundw
    case rel=>exact⟨i+1,kk+1,l.set i s,by go_num,by go_num,Hd_ (by have:=HKK.out;omega),HLT.out,Hd_ (by rw[List.length_set];exact HLL.out),hset,hkp⟩
    case measure=>have:=HLT.out;simp[intOf];omega
  · have h1:¬ ((i:Nat):Int)<((ss.length:Nat):Int):=by omega
    have hie:i=ss.length:=by omega
    have HR:Hid (kk=k+ss.length):=Hd_ (by rw[HKK.out,hie])
    clear hie
    go_wp2
    go_ret
    exact⟨fw (by rw[HR.out];first | rfl | exact Int.natCast_add _ _ | exact(Int.natCast_add _ _).symm),hK⟩
theorem nI (v:Value) (ss:List ByteArray) (w:World) (h:Strs w v ss) (hl:ss.length≤1048576) :
 Calls prog 9 #[.agg #[v]] w fun e w'=>∃ v',e=.returned (.agg #[v'])∧w'.ownsRow w.heap.size 9 1 v' ss.length (ss.map Value.string)∧Ext w w':=by
 obtain⟨a,cap,rfl,hlc,hcap⟩:=h.open
 go_enter Tryz.func9,Tryz.ntmps9
 go_upto_region 2 with fail
 have hE:Ext w (((w.alloc (.cells #[.slice a ss.length cap] 24)).alloc (.cells #[.slice none 0 0] 31)).alloc (.cells #[.slice none 0 0] 31)):=by go_grown
 have b0:(((w.alloc (.cells #[.slice a ss.length cap] 24)).alloc (.cells #[.slice none 0 0] 31)).alloc (.cells #[.slice none 0 0] 31)).heap[w.heap.size]?=some (.cells #[.slice a ss.length cap] 24 (0,0)):=by
  rw[Below.heap_alloc _ _ _ (by simp <;> omega),Below.heap_alloc _ _ _ (by simp)];exact heap_alloc_new _ _
 have b1:(((w.alloc (.cells #[.slice a ss.length cap] 24)).alloc (.cells #[.slice none 0 0] 31)).alloc (.cells #[.slice none 0 0] 31)).heap[w.heap.size+1]?=some (.cells #[.slice none 0 0] 31 (0,0)):=by
  rw[Below.heap_alloc _ _ _ (by simp)];have h:=heap_alloc_new (w.alloc (.cells #[.slice a ss.length cap] 24)) (.cells #[.slice none 0 0] 31);rw[sA_] at h;exact h
 have b2:(((w.alloc (.cells #[.slice a ss.length cap] 24)).alloc (.cells #[.slice none 0 0] 31)).alloc (.cells #[.slice none 0 0] 31)).heap[w.heap.size+2]?=some (.cells #[.slice none 0 0] 31 (0,0)):=by
  have h:=heap_alloc_new ((w.alloc (.cells #[.slice a ss.length cap] 24)).alloc (.cells #[.slice none 0 0] 31)) (.cells #[.slice none 0 0] 31);rw[sA_,sA_] at h;exact h
 rw[show w.heap.size+1+1=w.heap.size+2 from rfl]
 generalize ((w.alloc (.cells #[.slice a ss.length cap] 24)).alloc (.cells #[.slice none 0 0] 31)).alloc (.cells #[.slice none 0 0] 31)=W at *
 have c0:=cell_of_row W w.heap.size 0 _ _ _ b0
 simp only[gE] at c0
 have hto:=AZ _ ss _ (h.ext hE) hl
 have hzW:=hE.size
 have hz2:=ah b2
 go_upto_region 3 with (go_at_call 40;refine hto.mono ?_;rintro e w1 ⟨v',rfl,ho,hx⟩;obtain⟨a',c',rfl,-⟩:=az ho;have e2:=(hx.block _ (ah b2)).trans b2;have d20:=cell_of_row w1 (w.heap.size+2) 0 _ _ _ e2;have f20:=frozen_of_row w1 (w.heap.size+2) 0 _ _ e2)
 have e1:=(hx.block _ (ah b1)).trans b1
 have g2:=heap_setCell_same w1 (w.heap.size+2) 0 _ _ (.slice a' ss.length c') e2
 have g1:(w1.setCell ⟨w.heap.size+2,0,none⟩ (.slice a' ss.length c')).heap[w.heap.size+1]?=some (.cells #[.slice none 0 0] 31 (0,0)):=by rw[heap_setCell_other _ _ _ _ (by show w.heap.size+1≠w.heap.size+2;omega)];exact e1
 have hE1:=(aa hE hx).setCell (p:=⟨w.heap.size+2,0,none⟩) (by show w.heap.size≤w.heap.size+2;omega) (.slice a' ss.length c')
 have ho1:=aI ho (bJ (p:=⟨w.heap.size+2,0,none⟩) (v:=.slice a' ss.length c')) (fun b hb e=>by have:=(ho.lt b hb).1;have:b=w.heap.size+2:=e;omega)
 clear c0 hto d20 f20 e1 e2
 generalize w1.setCell ⟨w.heap.size+2,0,none⟩ (.slice a' ss.length c')=W1 at *
 have k2:=cell_of_row W1 (w.heap.size+2) 0 _ _ _ g2
 simp only[List.setIfInBounds_toArray,List.set_cons_zero,gE] at k2
 have k1:=cell_of_row W1 (w.heap.size+1) 0 _ _ _ g1
 have f1:=frozen_of_row W1 (w.heap.size+1) 0 _ _ g1
 have HH:=Hd_ (heap_setCell_same W1 (w.heap.size+1) 0 _ _ (.slice a' ss.length c') g1)
 have HO:=Hd_ (aI ho1 (bJ (p:=⟨w.heap.size+1,0,none⟩) (v:=.slice a' ss.length c')) (fun b hb e=>by have:=(ho1.lt b hb).1;have:b=w.heap.size+1:=e;omega))
 have HE:=Hd_ (hE1.setCell (p:=⟨w.heap.size+1,0,none⟩) (by show w.heap.size≤w.heap.size+1;omega) (.slice a' ss.length c'))
 clear hE1 ho1 g1 g2 ho
 go_wp2
 (try simp only[Exit.inBlock,Exit.then])
 refine bodyPost_ret (results_cell_row rfl _ _ (w.heap.size+1) 31 #[.slice a' ss.length c'] (0,0) _ rfl HH.out underlying31 rfl (by kernel_rfl)) rfl ?_
 exact⟨_,rfl,ic HO.out (by omega),HE.out⟩
theorem wK (v:Value) (ss:List ByteArray) (left:Int) (w:World) (h:Strs w v ss) (h0:0≤left) (h1:left≤1048576) (hs:∀ s,s∈ss→s.size≤9223372036854775807) :
 Calls prog 7 #[.agg #[v],.int .i64 left] w fun e w'=>e=.returned (.int .i64 (if szS ss left<0 then -1 else szS ss left))∧Ext w w':=by
 obtain⟨a,cap,rfl,hlc,hcap⟩:=h.open
 have hE:Ext w (w.alloc (.cells #[.slice a ss.length cap] 24)):=by go_grown
 have b0:=heap_alloc_new w (.cells #[.slice a ss.length cap] 24)
 go_enter Tryz.func7,Tryz.ntmps7
 go_upto_region 1 with fail
 generalize w.alloc (.cells #[.slice a ss.length cap] 24)=W at *
 have c0:=cell_of_row W w.heap.size 0 _ _ _ b0
 by_cases hn:szS ss left<0
 · go_wp2_with (go_at_call 36;refine(tK _ ss left _ (h.ext hE) h0 h1 hs).mono ?_;rintro e w1 ⟨rfl,hx⟩)
   go_ret
   exact⟨rfl,aa hE (dw hx)⟩
 · go_wp2_with (go_at_call 36;refine(tK _ ss left _ (h.ext hE) h0 h1 hs).mono ?_;rintro e w1 ⟨rfl,hx⟩)
   go_ret
   exact⟨rfl,aa hE (dw hx)⟩
theorem Ed (v u:Value) (ss:List ByteArray) (w:World) (h:Strs w v ss) (k:Strs w u ss) :
 Calls prog 12 #[.agg #[v],.agg #[u]] w fun e w'=>e=.returned (.bool true)∧Ext w w':=by
 obtain⟨a,cap,rfl,hlc,hcap⟩:=h.open
 obtain⟨a2,cap2,rfl,SQ,hcap2⟩:=k.open
 have hE:Ext w ((w.alloc (.cells #[.slice a ss.length cap] 31)).alloc (.cells #[.slice a2 ss.length cap2] 31)):=by go_grown
 have b0:((w.alloc (.cells #[.slice a ss.length cap] 31)).alloc (.cells #[.slice a2 ss.length cap2] 31)).heap[w.heap.size]?=some (.cells #[.slice a ss.length cap] 31 (0,0)):=by
  rw[Below.heap_alloc _ _ _ (by simp)];exact heap_alloc_new _ _
 have b1:((w.alloc (.cells #[.slice a ss.length cap] 31)).alloc (.cells #[.slice a2 ss.length cap2] 31)).heap[w.heap.size+1]?=some (.cells #[.slice a2 ss.length cap2] 31 (0,0)):=by
  have h:=heap_alloc_new (w.alloc (.cells #[.slice a ss.length cap] 31)) (.cells #[.slice a2 ss.length cap2] 31);rw[sA_] at h;exact h
 go_enter Tryz.func12,Tryz.ntmps12
 go_upto_region 1 with fail
 generalize (w.alloc (.cells #[.slice a ss.length cap] 31)).alloc (.cells #[.slice a2 ss.length cap2] 31)=W at *
 have c00:=cell_of_row W w.heap.size 0 _ _ _ b0
 have c10:=cell_of_row W (w.heap.size+1) 0 _ _ _ b1
 go_wp2_with (go_at_call 47;refine(Bh _ _ ss _ (h.ext hE) (k.ext hE)).mono ?_;rintro e w1 ⟨rfl,hx⟩)
 go_ret
 exact⟨rfl,aa hE (dw hx)⟩
theorem Ba (v:Value) (ss:List ByteArray) (k:Nat) (B:Nat) (w:World) (h:w.ownsRow B 9 1 v ss.length (ss.map Value.string)) (hk:k+ss.length≤1000000000) :
 Calls prog 13 #[.agg #[v],.int .i64 ((k:Nat):Int)] w fun e w'=>e=.returned (.int .i64 ((k+ss.length:Nat):Int))∧bg (fun b=>v.ownBlock=some b) w w':=by
 obtain⟨a,cap,rfl,-⟩:=az h
 have hE:Ext w (w.alloc (.cells #[.slice a ss.length cap] 31)):=by go_grown
 have b0:=heap_alloc_new w (.cells #[.slice a ss.length cap] 31)
 go_enter Tryz.func13,Tryz.ntmps13
 go_upto_region 1 with fail
 generalize w.alloc (.cells #[.slice a ss.length cap] 31)=W at *
 have c0:=cell_of_row W w.heap.size 0 _ _ _ b0
 go_wp2_with (go_at_call 48;refine(yu _ ss k B _ (aJ h hE) hk).mono ?_;rintro e w1 ⟨rfl,hkp⟩)
 go_ret
 exact⟨rfl,(bZ (F:=fun b=>Value.ownBlock (.slice a ss.length cap)=some b) hE).trans hkp (fun _ _ h=>h)⟩
end
end Go.Proofs.YteknjeohbcgpdaaGreatDoor