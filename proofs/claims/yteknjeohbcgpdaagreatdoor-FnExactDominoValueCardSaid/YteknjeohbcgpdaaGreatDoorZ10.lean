/-
  Contract of the reference's l6Open.
-/
import Derived.Test.YteknjeohbcgpdaaGreatDoorZ9
import Derived.Maps.Range
set_option maxRecDepth 100000
namespace Go.Proofs.YteknjeohbcgpdaaGreatDoor
open Tryz
open Go.RowKit
open Cgt (Dag Nd vl Ge)
structure dA (D:Dag) (root:Nat) (left:Bool) (l line B:List Nat) (i:Nat):Prop where
 nodup:line.Nodup
 lt:∀ x,x∈line→x<D.length
 sub:∀ x,x∈l→x∈line
 sound:∀ x,x∈line→x∈l∨∃ k,k<D.length∧GeS D left root k∧x∈opt D left k
 kept:∀ x,x∈B→x∈line∧∀ y,y∈opt D (!left) x→¬ GeS D left root y
 done:∀ j (h:j<line.length),j<i→line[j]∈B∨∃ y,y∈opt D (!left) line[j]∧GeS D left root y∧∀ x,x∈opt D left y→x∈line
 kR:B.length≤i
 jJ:∀ P:Nat→Prop,(∀ i side x,P i→x∈opt D side i→P x)→(∀ x,x∈l→P x)→∀ x,x∈line→P x
theorem fT {n:Nat} {l:List Nat} (h:l.Nodup) (hl:∀ x,x∈l→x<n):l.length≤n:=by
 induction n generalizing l with
 | zero=>cases l with
   | nil=>simp
   | cons x l=>have:=hl x (by simp);omega
 | succ n ih =>
   have h1:=ih (l:=l.filter (fun x=>x≠n)) (h.sublist List.filter_sublist) (fun x hx=>by
    obtain⟨a,b⟩:=List.mem_filter.1 hx
    have:=hl x a;simp at b;omega)
   have h2:l.length≤(l.filter (fun x=>x≠n)).length+1:=by
    clear ih h1 hl
    induction l with
    | nil=>simp
    | cons x l ih =>
      have hd:=List.nodup_cons.1 h
      by_cases e:x=n
      · subst e
        have:l.filter (fun y=>y≠x)=l:=List.filter_eq_self.2 (fun y hy=>by simp;rintro rfl;exact hd.1 hy)
        rw[List.filter_cons_of_neg (by simp),this];simp
      · simp[e];have:=ih hd.2;simp at this;omega
   omega
theorem dA.len {D:Dag} {root:Nat} {left:Bool} {l line B:List Nat} {i:Nat} (h:dA D root left l line B i):line.length≤D.length:=fT h.nodup h.lt
theorem dA.start {D:Dag} {root:Nat} {left:Bool} {l:List Nat} (hn:l.Nodup) (hl:∀ x,x∈l→x<D.length):dA D root left l l [] 0 :=
 ⟨hn,hl,fun _ h=>h,fun _ h=>.inl h,by simp,fun _ _ h=>absurd h (by omega),by simp,fun _ _ h=>h⟩
theorem dA.keep {D:Dag} {root:Nat} {left:Bool} {l line B:List Nat} {i:Nat} (h:dA D root left l line B i) (hi:i<line.length) (hn:∀ y,y∈opt D (!left) line[i]→¬ GeS D left root y):dA D root left l line (B++[line[i]]) (i+1):=by
 refine⟨h.nodup,h.lt,h.sub,h.sound,fun x hx=>?_,fun j hj hji=>?_,by simp;exact h.kR,h.jJ⟩
 · rcases List.mem_append.1 hx with hx | hx
   · exact h.kept x hx
   · simp at hx;subst hx;exact⟨List.getElem_mem hi,hn⟩
 · by_cases e:j=i
   · subst e;exact .inl (by simp)
   · rcases h.done j hj (by omega) with a | a
     · exact .inl (by simp[a])
     · exact .inr a
theorem dA.add {D:Dag} {root:Nat} {left:Bool} {l line B:List Nat} {i:Nat} (h:dA D root left l line B i) {x k:Nat} (hx:x<D.length) (hn:x ∉ line) (hk:k<D.length) (hg:GeS D left root k) (ho:x∈opt D left k) (hi:i≤line.length) {z:Nat} (hz:z∈line) (hkz:k∈opt D (!left) z):dA D root left l (line++[x]) B i:=by
 refine⟨?_,fun y hy=>?_,fun y hy=>by simp[h.sub y hy],fun y hy=>?_,fun y hy=>⟨by simp[(h.kept y hy).1],(h.kept y hy).2⟩,fun j hj hji=>?_,h.kR,fun P c hl y hy=>?_⟩
 · rw[List.nodup_append]
   exact⟨h.nodup,by simp,fun a ha b hb=>by simp at hb;subst hb;rintro rfl;exact hn ha⟩
 · rcases List.mem_append.1 hy with hy | hy
   · exact h.lt y hy
   · simp at hy;omega
 · rcases List.mem_append.1 hy with hy | hy
   · exact h.sound y hy
   · simp at hy;subst hy;exact .inr ⟨k,hk,hg,ho⟩
 · have hjl:j<line.length:=by omega
   rw[List.getElem_append_left hjl]
   rcases h.done j hjl hji with a | ⟨y,a,b,c⟩
   · exact .inl a
   · exact .inr ⟨y,a,b,fun z hz=>by simp[c z hz]⟩
 · rcases List.mem_append.1 hy with hy | hy
   · exact h.jJ P c hl y hy
   · simp at hy;subst hy
     exact c _ _ _ (c _ _ _ (h.jJ P c hl z hz) hkz) ho
theorem dA.pass {D:Dag} {root:Nat} {left:Bool} {l line B:List Nat} {i:Nat} (h:dA D root left l line B i) {y:Nat} (hi:i<line.length) (hy:y∈opt D (!left) line[i]) (hg:GeS D left root y) (hs:∀ x,x∈opt D left y→x∈line):dA D root left l line B (i+1):=by
 refine⟨h.nodup,h.lt,h.sub,h.sound,h.kept,fun j hj hji=>?_,by have:=h.kR;omega,h.jJ⟩
 by_cases e:j=i
 · subst e;exact .inr ⟨y,hy,hg,hs⟩
 · exact h.done j hj (by omega)
theorem fH {D:Dag} (hD:Cgt.WF D) {left:Bool} {i x:Nat} (hx:x∈opt D left i):x<i:=by
 unfold opt at hx
 cases h:D[i]? with
 | none=>rw[h] at hx;simp at hx
 | some nd =>
   rw[h] at hx
   cases left
   · exact(hD i nd h).2 x (by simpa using hx)
   · exact(hD i nd h).1 x (by simpa using hx)
theorem zM {w:World} {a:Option Addr} {cap:Nat} {l:List Int} (_:l.length≤cap) (_:l.length≤1152921504606846976) (hc:0<l.length→∃ b off,a=some ⟨b,off,none⟩∧∀ i,i<l.length→w.cell? ⟨b,off+i,none⟩=some (.int .i64 (zat l i))) (W:World) (hE:Ext w W) :
 l.length=0∨∃ ad,a=some ad∧∀ (j:Nat) (u:Value),(l.map (Value.int .i64))[j]?=some u→W.cell? (ad.add j)=some u:=by
 by_cases h:l.length=0
 · exact .inl h
 · obtain⟨b,off,rfl,hcell⟩:=hc (by omega)
   refine .inr ⟨_,rfl,?_⟩
   have:=BD hcell hE 0 l.length (by omega)
   simpa using this
structure gP (w:World) (wr:World) (lv ov:Value) (line B:List Nat):Prop where
 own:wr.ownsRow w.heap.size 3 1 lv line.length ((toZ line).map (Value.int .i64))
 out:Ints wr ov (dO (toZ B))
 fresh:∀ b,ov.ownBlock=some b→w.heap.size≤b∧b<wr.heap.size
 apart:∀ b,ov.ownBlock=some b→lv.ownBlock≠some b
theorem gP.grown {w wr w':World} {kb:Nat} {lv ov:Value} {line B:List Nat} (h:gP w wr lv ov line B) (hg:wr.grownBy w' (some kb)) (hk:kb<w.heap.size):gP w w' lv ov line B :=
 ⟨h.own.kept hg (by
  cases e:lv.ownBlock with
  | none=>exact .inl rfl
  | some b=>exact .inr (fun e'=>by injection e' with e';have:=h.own.lt b e;omega)),
  oG h.out hg (fun b hb=>by have:=h.fresh b hb;omega),fun b hb=>⟨(h.fresh b hb).1,Nat.lt_of_lt_of_le (h.fresh b hb).2 hg.size⟩,h.apart⟩
theorem gP.cell {w wr:World} {gl cl:Nat} {ov:Value} {line B:List Nat} (h:gP w wr (.slice (some ⟨gl,0,none⟩) line.length cl) ov line B) {k:Nat} (hk:k<line.length):wr.cell? ⟨gl,k,none⟩=some (.int .i64 (line[k]:Int)):=by
 rw[h.own.cellAt k (by omega)];simp[toZ,hk]
theorem Ord.yx {w:World} {po pb kb g cap:Nat} {vb:Value} {D:Dag} (h:Ord w po pb kb (.slice (some ⟨g,0,none⟩) D.length cap) vb D) {i:Nat} (hi:i<D.length):∃ L R,(∀ w',w.grownBy w' (some kb)→w'.cell? ⟨g,i*2,none⟩=some L∧w'.cell? ⟨g,i*2+1,none⟩=some R∧Ints w' L (toZ (D[i]).1)∧Ints w' R (toZ (D[i]).2))∧(∀ b,L.ownBlock=some b→b≠kb)∧(∀ b,R.ownBlock=some b→b≠kb):=by
 obtain⟨g',cap',L,R,he,h1,h2,h3⟩:=h.lists hi
 simp only[Value.slice.injEq,Option.some.injEq,Addr.mk.injEq,true_and,and_true] at he
 obtain⟨rfl,rfl⟩:=he
 exact⟨L,R,h1,h2,h3⟩
theorem Ord.Pm {w:World} {po pb kb g cap:Nat} {vb:Value} {D:Dag} (h:Ord w po pb kb (.slice (some ⟨g,0,none⟩) D.length cap) vb D) {i:Nat} (hi:i<D.length):∃ aL cL aR cR,∀ w',w.grownBy w' (some kb)→w'.cell? ⟨g,i*2,none⟩=some (.slice aL (D[i]).1.length cL)∧w'.cell? ⟨g,i*2+1,none⟩=some (.slice aR (D[i]).2.length cR)∧Ints w' (.slice aL (D[i]).1.length cL) (toZ (D[i]).1)∧Ints w' (.slice aR (D[i]).2.length cR) (toZ (D[i]).2):=by
 obtain⟨L,R,h1,_,_⟩:=h.yx hi
 obtain⟨aL,cL,rfl,_⟩:=(h1 w (World.grownBy.refl _ _)).2.2.1
 obtain⟨aR,cR,rfl,_⟩:=(h1 w (World.grownBy.refl _ _)).2.2.2
 rw[aj,aj] at h1
 exact⟨aL,cL,aR,cR,h1⟩
theorem sD {l line:List Nat} {k:Nat} (hk:k<l.length) (h:Hid (∀ j (h:j<l.length),j<k→l[j]∈line)) (hn:l[k]∈line):Hid (∀ j (h:j<l.length),j<k+1→l[j]∈line):=by
 intro j hj hjk
 by_cases e:j=k
 · subst e;exact hn
 · exact h j hj (by omega)
theorem iC (w:World) (n:Nat) (row:Option Nat):w.grownBy (w.drewN n) row:=⟨rfl,rfl,rfl,Nat.le_refl _,fun _ _ _=>rfl⟩
theorem gP.put {w wr w2:World} {lv ov v1:Value} {line B:List Nat} {x:Nat} (h:gP w wr lv ov line B) (hI:Ints w2 v1 (iW (dO (toZ B)) (x:Int))) (hx:Ext wr w2) (hn:Ib wr w2 ov v1) (hw:w.heap.size≤wr.heap.size):gP w w2 lv v1 line (B++[x]):=by
 refine⟨aJ h.own hx,?_,nR h.fresh hw hx.size hn,fun b hb e=>?_⟩
 · rw[show toZ (B++[x])=toZ B++[(x:Int)] by simp[toZ],rV];exact hI
 · rcases hn b hb with h1 | h1
   · exact h.apart b h1 e
   · have:=(h.own.lt b e).2;omega
theorem gP.add {w wr w2:World} {lv lv2 ov:Value} {line B:List Nat} {x n:Nat} {X:Obj} (h:gP w wr lv ov line B) (hg:((wr.drewN n).alloc X).grownBy w2 lv.ownBlock)
 (ho:w2.ownsRow w.heap.size 3 1 lv2 (line.length+1) ((toZ line).map (Value.int .i64)++[.int .i64 (x:Int)])) (hl:eU ((wr.drewN n).alloc X) lv lv2):gP w w2 lv2 ov (line++[x]) B:=by
 have hz:(wr.drewN n).heap.size=wr.heap.size:=rfl
 have hs:=hg.size
 rw[sA_,hz] at hs
 refine⟨by simpa [toZ] using ho,?_,fun b hb=>⟨(h.fresh b hb).1,by have:=(h.fresh b hb).2;omega⟩,fun b hb e=>?_⟩
 · refine h.out.keep (fun b hn hb=>?_)
   have hlt:=(h.fresh b hb).2
   rw[hg.block b (by rw[sA_,hz];omega) (by intro e;exact h.apart b hb e.symm),(World.grownBy_alloc _ _ none).block b (by rw[hz];omega) (by simp)]
   rfl
 · rcases hl with h1 | ⟨g,h1,h2⟩
   · exact h.apart b hb (h1 ▸ e)
   · rw[h1] at e;injection e with e
     rw[sA_,hz] at h2
     have:=(h.fresh b hb).2;omega
theorem Ord.IU {w wr w2:World} {po pb kb:Nat} {vn vb:Value} {D:Dag} {row:Option Nat} (hO:Ord w po pb kb vn vb D) (hgr:w.grownBy w2 (some kb)) (hOr:Ord wr po pb kb vn vb D) (hg:wr.grownBy w2 row) (hne:row≠some kb):Ord w2 po pb kb vn vb D:=by
 obtain⟨kn0,h0,_⟩:=hO
 obtain⟨kn,h1,hH⟩:=hOr
 have h2:=h0.grown hgr (kn':=kn) (h1.own.kept hg (.inr (by simp only[Value.ownBlock];exact fun e=>hne e.symm)))
 exact⟨kn,h2,hH⟩
set_option maxHeartbeats 2000000 in
theorem yA (po pb kb:Nat) (vn vb v:Value) (D:Dag) (root:Nat) (l:List Nat) (left:Bool) (w:World) (hO:Ord w po pb kb vn vb D) (hr:root<D.length) (hv:Ints w v (toZ l)) (hvk:∀ b,v.ownBlock=some b→b≠kb) (hl:∀ x,x∈l→x<D.length) (hnd:l.Nodup) :
 Calls prog 174 #[.pointer (some ⟨po,0,none⟩),.int .i64 root,v,.bool left] w fun e w'=>∃ v' line B,e=.returned v'∧Ints w' v' (dO (toZ B))∧dA D root left l line B line.length∧Ord w' po pb kb vn vb D∧w.grownBy w' (some kb)∧(∀ b,v'.ownBlock=some b→w.heap.size≤b∧b<w'.heap.size):=by
 have hkb:=hO.Bq
 have hds:=hO.at.small
 have hll:=fT hnd hl
 have hD:=Hd_ hO.at.good.wf
 obtain⟨gn,cn,_,_,rfl,_,_,_⟩:=hO.lists hr
 obtain⟨i0,hi,hz0,hz1,hz2⟩:=info_parts eO
 obtain⟨a,cap,rfl,hlc,hcap,hcells⟩:=hv
 have hsrc:=zM hlc hcap hcells (w.alloc (.cells #[] 3)) (by go_grown)
 rw[aj] at hlc hcap hcells hsrc
 rw[aj]
 go_enter Tryz.func174,Tryz.ntmps174
 go_wp2_with (at_builtin;refine aW rfl (.tmp 15) (.tmp 16) 80 rfl w.heap.size 3 i0 (.int .i64 0) 1 8 underlying80 hi hz0 hz1 hz2 rfl (by decide) (.slice (some ⟨w.heap.size,0,none⟩) 0 0) 0 [] rfl (dD w _ (Nat.le_refl _) _) a l.length cap ((toZ l).map (Value.int .i64)) rfl (by simp[aj]) hsrc (eQ _) (by unfold maxLen;omega) (by omega) (by simp) ?_;intro v1 w1 ho1 hg1 hl1;simp only[Nat.zero_add,List.nil_append] at ho1)
 have hx1:Ext w w1:=aV (by go_grown) hg1 (fun k hk=>by simp[Value.ownBlock] at hk;omega)
 have hw1:=hx1.size
 have hv1:=ho1.lt
 go_loopw [9,10,11,12,13,14] (fun lv ov i _ _ _ wr=>∃ k line B,k≤line.length∧i=.int .i64 ((k:Nat):Int)∧gP w wr lv ov line B∧dA D root left l line B k∧Ord wr po pb kb (.slice (some ⟨gn,0,none⟩) D.length cn) vb D∧w.grownBy wr (some kb)) (fun _ _ i _ _ _ _=>D.length-(intOf i).toNat)
 case atStart =>
  refine⟨0,l,[],Nat.zero_le _,rfl,⟨by simpa [aj] using ho1.alloc _,Ints.nil _ _ _,fun b hb=>?_,fun b hb e=>?_⟩,dA.start hnd hl,hO.grown (eZ (aM hx1 _)),(eZ (aM hx1 _)).but _⟩
  · simp[Value.ownBlock] at hb;subst hb;simp;omega
  · simp[Value.ownBlock] at hb;subst hb;have:=(hv1 _ e).2;omega
 case round =>
  clear hx1 hw1 hv1 ho1 hg1 hl1 hsrc hcells
  obtain⟨k,line,B,hk,rfl,hM,hinv,hO1,hgr⟩:=hrel
  have hlen:=hinv.len
  by_cases hlt:k<line.length
  · obtain⟨gl,cl,rfl,hl1,hl2,hcl⟩:=dC hM.own (by omega)
    have hck:wr.cell? ⟨gl,k,none⟩=some (.int .i64 (line[k]:Int)):=by rw[hcl k (by omega)];simp[toZ,hlt]
    have hBl:(dO (toZ B)).length≤1000000000:=by have:=nO (toZ B);rw[aj] at this;have:=hinv.kR;omega
    have hxn:=hinv.lt _ (List.getElem_mem hlt)
    clear hcl
    go_wp2_with (first
     | (go_at_call 206;refine(Bf po pb kb _ vb D root line[k] left _ hO1 hr hxn).mono ?_;rintro e w1 ⟨y0,rfl,hT,hO2,ik⟩
        have hM2:=hM.grown ik hkb
        have uN:=hM2.cell hlt
        have hGR:=hgr.trans ik
        rcases hT with ⟨rfl,hT⟩ | ⟨y,hy,rfl,hT⟩
        all_goals try (
         have hyn:y<D.length:=Nat.lt_trans (fH hD.out hy) hxn
         have hy0:decide ((y:Int)<0)=false:=by simp
         obtain⟨aL,cL,aR,cR,hG⟩:=hO.Pm hyn
         obtain⟨gL,gR,iL,iR⟩:=hG w1 hGR
         have HG:=Hd_ hG
         have c0:=hO2.cell0
         have b0:=hO2.at.cell0
         clear hG
         cases left))
     | (go_at_call 180;refine(nW _ _ _ _ hM2.out hBl).mono ?_;rintro e w2 ⟨v1,rfl,hI1,hx1,hn1⟩))
    · go_roundw
      case rel=>exact⟨k+1,line,B++[line[k]],by omega,by go_num,hM2.put hI1 hx1 hn1 hGR.size,hinv.keep hlt hT,hO2.grown (eZ hx1),hGR.trans ((eZ hx1).but _)⟩
      case measure=>simp[intOf];omega
    · have HI:Hid (∀ w',w.grownBy w' (some kb)→Ints w' (.slice aR (D[y]).2.length cR) (toZ (D[y]).2)):=fun w' hg=>(HG.out w' hg).2.2.2
      have CE:opt D false y=(D[y]).2:=by simp[opt,hyn]
      have hMl:(D[y]).2.length≤1152921504606846976:=by have h:=iR;obtain⟨_,_,_,_,h,_⟩:=h;rw[aj] at h;exact h
      have HO2:=Hd_ hO2
      have HM2:=Hd_ hM2
      have HV:=Hd_ hinv
      clear iL iR gL gR c0 b0 hck uN hM HG hO2 hM2 hO1 hgr hinv
      obtain⟨wi,rfl⟩:∃ wi:World,wi=w1:=⟨_,rfl⟩
      go_loopw [9,14] (fun lv m wr=>∃ j dW,j≤(D[y]).2.length∧m=.int .i64 ((j:Nat):Int)∧gP w wr lv u10 dW B∧dA D root false l dW B k∧dW[k]?=some line[k]∧Ord wr po pb kb (.slice (some ⟨gn,0,none⟩) D.length cn) vb D∧w.grownBy wr (some kb)∧Hid (∀ j' (h:j'<(D[y]).2.length),j'<j→(D[y]).2[j']∈dW)) (fun _ m _=>(D[y]).2.length-(intOf m).toNat)
      case atStart=>exact⟨0,line,Nat.zero_le _,rfl,HM2.out,HV.out,List.getElem?_eq_getElem hlt,HO2.out,hGR,fun j' _ h=>absurd h (by omega)⟩
      case round =>
       obtain⟨j,dW,hj,rfl,hM4,kD,hlk,hO4,mh,HN⟩:=hrel
       have Rq:=kD.len
       by_cases hjt:j<(D[y]).2.length
       · obtain⟨a0,c0',he,_,_,hcells⟩:=HI.out _ mh
         simp only[Value.slice.injEq] at he
         obtain⟨rfl,-,rfl⟩:=he
         rw[aj] at hcells
         obtain⟨bM,oM,rfl,hcell⟩:=hcells (by omega)
         have hcm:=hcell j hjt
         rw[dN hjt] at hcm
         have hLI:=Ints.bG (l:=toZ dW) hM4.own (by rw[aj];omega)
         clear hcell hcells
         by_cases hin:(D[y]).2[j]∈dW
         · have hh:fJ (toZ dW) ((D[y]).2[j]:Int)=true:=by simp only[fJ];exact decide_eq_true (mO.2 hin)
           have HIN:=Hd_ hin
           have HM4:=Hd_ hM4
           have HV4:=Hd_ kD
           clear hin hM4 kD
           go_wp2_with (go_at_call 207;refine(lV _ _ _ _ hLI).mono ?_;rintro e w2 ⟨he,n1,rfl⟩;rw[hh] at he;subst he)
           go_roundw
           case rel=>exact⟨j+1,dW,by omega,by go_num,HM4.out.grown (iC _ _ _) hkb,HV4.out,hlk,hO4.grown (iC _ _ _),mh.trans (iC _ _ _),sD hjt HN HIN.out⟩
           case measure=>simp[intOf];omega
         · have hh:fJ (toZ dW) ((D[y]).2[j]:Int)=false:=by simp only[fJ];exact decide_eq_false (fun h=>hin (mO.1 h))
           have HIN:=Hd_ hin
           have HM4:=Hd_ hM4
           have HV4:=Hd_ kD
           have yH:=hM4.own
           have hw4:=mh.size
           clear hin hM4 kD
           go_wp2_with (first
            | (go_at_call 207;refine(lV _ _ _ _ hLI).mono ?_;rintro e w2 ⟨he,n1,rfl⟩;rw[hh] at he;subst he)
            | (at_builtin;refine aW rfl (.tmp 78) (.tmp 83) 80 rfl w.heap.size 3 i0 (.int .i64 0) 1 8 underlying80 hi hz0 hz1 hz2 rfl (by decide) _ dW.length _ rfl ((own_drewN yH n1).alloc _) _ 1 _ [.int .i64 ((D[y]).2[j]:Int)] rfl rfl (.inr ⟨_,rfl,bq (aO _ _ _)⟩) one_cell (by unfold maxLen;omega) (by omega) (by simp;omega) ?_;intro v5 w5 ho5 hg5 hl5))
           go_roundw
           case rel =>
            have hrow:∀ b,Value.ownBlock u9=some b→w.heap.size≤b:=fun b hb=>(yH.lt b hb).1
            have Cv:wr.grownBy w5 (Value.ownBlock u9):=((iC wr n1 _).trans (World.grownBy_alloc _ _ _)).trans hg5
            have hgr5:w.grownBy w5 (some kb):=mh.andThen Cv (fun b hb=>.inl (hrow b hb))
            have hxo:(D[y]).2[j]∈opt D false y:=by rw[CE];exact List.getElem_mem hjt
            have hkl:k<dW.length:=(List.getElem?_eq_some_iff.1 hlk).1
            exact⟨j+1,dW++[(D[y]).2[j]],by omega,by go_num,HM4.out.add hg5 ho5 hl5,HV4.out.add (Nat.lt_trans (fH hD.out hxo) hyn) HIN.out hyn hT hxo (by omega) (List.mem_of_getElem? hlk) hy,by rw[List.getElem?_append_left hkl];exact hlk,hO.IU hgr5 hO4 Cv (by intro e;have:=hrow kb e;omega),hgr5,sD hjt (fun j' h h'=>by have:=HN.out j' h h';simp[this]) (by simp)⟩
           case measure=>simp[intOf];omega
       · have hjl:j=(D[y]).2.length:=by omega
         subst hjl
         go_wp2
         go_roundw
         case rel =>
          have hkl:k<dW.length:=(List.getElem?_eq_some_iff.1 hlk).1
          have hke:dW[k]=line[k]:=by rw[List.getElem?_eq_getElem hkl] at hlk;injection hlk
          exact⟨k+1,dW,B,by omega,by go_num,hM4,kD.pass hkl (by rw[hke];exact hy) hT (fun x hx=>by
           rw[CE] at hx
           obtain⟨j',h,rfl⟩:=List.mem_iff_getElem.1 hx
           exact HN.out j' h h),hO4,mh⟩
         case measure=>simp[intOf];omega
    · have HI:Hid (∀ w',w.grownBy w' (some kb)→Ints w' (.slice aL (D[y]).1.length cL) (toZ (D[y]).1)):=fun w' hg=>(HG.out w' hg).2.2.1
      have CE:opt D true y=(D[y]).1:=by simp[opt,hyn]
      have hMl:(D[y]).1.length≤1152921504606846976:=by have h:=iL;obtain⟨_,_,_,_,h,_⟩:=h;rw[aj] at h;exact h
      have HO2:=Hd_ hO2
      have HM2:=Hd_ hM2
      have HV:=Hd_ hinv
      clear iL iR gL gR c0 b0 hck uN hM HG hO2 hM2 hO1 hgr hinv
      obtain⟨wi,rfl⟩:∃ wi:World,wi=w1:=⟨_,rfl⟩
      go_loopw [9,14] (fun lv m wr=>∃ j dW,j≤(D[y]).1.length∧m=.int .i64 ((j:Nat):Int)∧gP w wr lv u10 dW B∧dA D root true l dW B k∧dW[k]?=some line[k]∧Ord wr po pb kb (.slice (some ⟨gn,0,none⟩) D.length cn) vb D∧w.grownBy wr (some kb)∧Hid (∀ j' (h:j'<(D[y]).1.length),j'<j→(D[y]).1[j']∈dW)) (fun _ m _=>(D[y]).1.length-(intOf m).toNat)
      case atStart=>exact⟨0,line,Nat.zero_le _,rfl,HM2.out,HV.out,List.getElem?_eq_getElem hlt,HO2.out,hGR,fun j' _ h=>absurd h (by omega)⟩
      case round =>
       obtain⟨j,dW,hj,rfl,hM4,kD,hlk,hO4,mh,HN⟩:=hrel
       have Rq:=kD.len
       by_cases hjt:j<(D[y]).1.length
       · obtain⟨a0,c0',he,_,_,hcells⟩:=HI.out _ mh
         simp only[Value.slice.injEq] at he
         obtain⟨rfl,-,rfl⟩:=he
         rw[aj] at hcells
         obtain⟨bM,oM,rfl,hcell⟩:=hcells (by omega)
         have hcm:=hcell j hjt
         rw[dN hjt] at hcm
         have hLI:=Ints.bG (l:=toZ dW) hM4.own (by rw[aj];omega)
         clear hcell hcells
         by_cases hin:(D[y]).1[j]∈dW
         · have hh:fJ (toZ dW) ((D[y]).1[j]:Int)=true:=by simp only[fJ];exact decide_eq_true (mO.2 hin)
           have HIN:=Hd_ hin
           have HM4:=Hd_ hM4
           have HV4:=Hd_ kD
           clear hin hM4 kD
           go_wp2_with (go_at_call 207;refine(lV _ _ _ _ hLI).mono ?_;rintro e w2 ⟨he,n1,rfl⟩;rw[hh] at he;subst he)
           go_roundw
           case rel=>exact⟨j+1,dW,by omega,by go_num,HM4.out.grown (iC _ _ _) hkb,HV4.out,hlk,hO4.grown (iC _ _ _),mh.trans (iC _ _ _),sD hjt HN HIN.out⟩
           case measure=>simp[intOf];omega
         · have hh:fJ (toZ dW) ((D[y]).1[j]:Int)=false:=by simp only[fJ];exact decide_eq_false (fun h=>hin (mO.1 h))
           have HIN:=Hd_ hin
           have HM4:=Hd_ hM4
           have HV4:=Hd_ kD
           have yH:=hM4.own
           have hw4:=mh.size
           clear hin hM4 kD
           go_wp2_with (first
            | (go_at_call 207;refine(lV _ _ _ _ hLI).mono ?_;rintro e w2 ⟨he,n1,rfl⟩;rw[hh] at he;subst he)
            | (at_builtin;refine aW rfl (.tmp 78) (.tmp 83) 80 rfl w.heap.size 3 i0 (.int .i64 0) 1 8 underlying80 hi hz0 hz1 hz2 rfl (by decide) _ dW.length _ rfl ((own_drewN yH n1).alloc _) _ 1 _ [.int .i64 ((D[y]).1[j]:Int)] rfl rfl (.inr ⟨_,rfl,bq (aO _ _ _)⟩) one_cell (by unfold maxLen;omega) (by omega) (by simp;omega) ?_;intro v5 w5 ho5 hg5 hl5))
           go_roundw
           case rel =>
            have hrow:∀ b,Value.ownBlock u9=some b→w.heap.size≤b:=fun b hb=>(yH.lt b hb).1
            have Cv:wr.grownBy w5 (Value.ownBlock u9):=((iC wr n1 _).trans (World.grownBy_alloc _ _ _)).trans hg5
            have hgr5:w.grownBy w5 (some kb):=mh.andThen Cv (fun b hb=>.inl (hrow b hb))
            have hxo:(D[y]).1[j]∈opt D true y:=by rw[CE];exact List.getElem_mem hjt
            have hkl:k<dW.length:=(List.getElem?_eq_some_iff.1 hlk).1
            exact⟨j+1,dW++[(D[y]).1[j]],by omega,by go_num,HM4.out.add hg5 ho5 hl5,HV4.out.add (Nat.lt_trans (fH hD.out hxo) hyn) HIN.out hyn hT hxo (by omega) (List.mem_of_getElem? hlk) hy,by rw[List.getElem?_append_left hkl];exact hlk,hO.IU hgr5 hO4 Cv (by intro e;have:=hrow kb e;omega),hgr5,sD hjt (fun j' h h'=>by have:=HN.out j' h h';simp[this]) (by simp)⟩
           case measure=>simp[intOf];omega
       · have hjl:j=(D[y]).1.length:=by omega
         subst hjl
         go_wp2
         go_roundw
         case rel =>
          have hkl:k<dW.length:=(List.getElem?_eq_some_iff.1 hlk).1
          have hke:dW[k]=line[k]:=by rw[List.getElem?_eq_getElem hkl] at hlk;injection hlk
          exact⟨k+1,dW,B,by omega,by go_num,hM4,kD.pass hkl (by rw[hke];exact hy) hT (fun x hx=>by
           rw[CE] at hx
           obtain⟨j',h,rfl⟩:=List.mem_iff_getElem.1 hx
           exact HN.out j' h h),hO4,mh⟩
         case measure=>simp[intOf];omega
  · have hkl:k=line.length:=by omega
    subst hkl
    obtain⟨al,cl,rfl,hl1,hl2⟩:=az hM.own
    go_wp2
    go_ret
    exact⟨_,line,B,rfl,hM.out,hinv,hO1,hgr,hM.fresh⟩
end Go.Proofs.YteknjeohbcgpdaaGreatDoor