/-
  Contracts of the reference's order of a book's games: geq, look; the order in memory.
-/
import Derived.Test.YteknjeohbcgpdaaGreatDoorZ7
set_option maxRecDepth 100000
namespace Go.Proofs.YteknjeohbcgpdaaGreatDoor
open Tryz
open Go.RowKit
open Cgt (Dag Nd vl Ge)
structure eu (w:World) (po pb kb:Nat) (vn vb:Value) (D:Dag) (kn:List Int):Prop where
 book:∀ w',w.grownBy w' (some kb)→bu w' pb vn vb D
 apart:po≠kb
 cell0:w.cell? ⟨po,0,none⟩=some (.pointer (some ⟨pb,0,none⟩))
 cell1:w.cell? ⟨po,1,none⟩=some (.slice (some ⟨kb,0,none⟩) (D.length*D.length) (D.length*D.length))
 own:w.ownsRow 0 3 1 (.slice (some ⟨kb,0,none⟩) (D.length*D.length) (D.length*D.length)) (D.length*D.length) (kn.map (Value.int .i64))
 lists:∀ i (h:i<D.length),∃ g cap L R,vn=.slice (some ⟨g,0,none⟩) D.length cap∧(∀ w',w.grownBy w' (some kb)→w'.cell? ⟨g,i*2,none⟩=some L∧w'.cell? ⟨g,i*2+1,none⟩=some R∧Ints w' L (toZ (D[i]).1)∧Ints w' R (toZ (D[i]).2))∧(∀ b,L.ownBlock=some b→b≠kb)∧(∀ b,R.ownBlock=some b→b≠kb)
theorem eu.at {w:World} {po pb kb:Nat} {vn vb:Value} {D:Dag} {kn:List Int} (h:eu w po pb kb vn vb D kn):bu w pb vn vb D:=h.book w (World.grownBy.refl _ _)
theorem eu.len {w:World} {po pb kb:Nat} {vn vb:Value} {D:Dag} {kn:List Int} (h:eu w po pb kb vn vb D kn):kn.length=D.length*D.length:=by have:=h.own.1;simpa using this
theorem eu.grown {w w':World} {po pb kb:Nat} {vn vb:Value} {D:Dag} {kn kn':List Int} (h:eu w po pb kb vn vb D kn) (hg:w.grownBy w' (some kb))
 (ho:w'.ownsRow 0 3 1 (.slice (some ⟨kb,0,none⟩) (D.length*D.length) (D.length*D.length)) (D.length*D.length) (kn'.map (Value.int .i64))):eu w' po pb kb vn vb D kn' :=
 ⟨fun w'' g=>h.book w'' (hg.trans g),h.apart,hg.cell h.cell0 (by simpa using h.apart),hg.cell h.cell1 (by simpa using h.apart),ho,fun i hi=>by obtain⟨g,cap,L,R,h1,h2,h3⟩:=h.lists i hi;exact⟨g,cap,L,R,h1,fun w'' k=>h2 w'' (hg.trans k),h3⟩⟩
theorem Jv {n i j:Nat} (hi:i<n) (hj:j<n):i*n+j<n*n:=by
 have:(i+1)*n≤n*n:=Nat.mul_le_mul_right n hi
 rw[Nat.add_mul,Nat.one_mul] at this;omega
theorem rD {n i j i' j':Nat} (hj:j<n) (hj':j'<n) (h:i*n+j=i'*n+j'):i=i'∧j=j':=by
 have h1:(i*n+j) / n=i:=by rw[Nat.mul_comm,Nat.mul_add_div (by omega),Nat.div_eq_of_lt hj,Nat.add_zero]
 have h2:(i'*n+j') / n=i':=by rw[Nat.mul_comm,Nat.mul_add_div (by omega),Nat.div_eq_of_lt hj',Nat.add_zero]
 have e:i=i':=by rw[← h1,← h2,h]
 subst e;omega
theorem eu.known {w:World} {po pb kb:Nat} {vn vb:Value} {D:Dag} {kn:List Int} (h:eu w po pb kb vn vb D kn) {k:Nat} (hk:k<D.length*D.length):w.cell? ⟨kb,k,none⟩=some (.int .i64 (zat kn k)):=by
 rw[h.own.cellAt k (by omega)]
 have:k<kn.length:=by rw[h.len];exact hk
 simp[zat,this]
theorem eu.free {w:World} {po pb kb:Nat} {vn vb:Value} {D:Dag} {kn:List Int} (h:eu w po pb kb vn vb D kn) (k:Nat):w.frozen? ⟨kb,k,none⟩=false:=h.own.frozenAt k
theorem eu.set {w:World} {po pb kb:Nat} {vn vb:Value} {D:Dag} {kn:List Int} (h:eu w po pb kb vn vb D kn) (k:Nat) (x:Int) :
 eu (w.setCell ⟨kb,k,none⟩ (.int .i64 x)) po pb kb vn vb D (kn.set k x)∧w.grownBy (w.setCell ⟨kb,k,none⟩ (.int .i64 x)) (some kb):=by
 have hs:=h.own.stored k (.int .i64 x)
 refine⟨h.grown hs.2 ?_,hs.2⟩
 rw[List.map_set];exact hs.1
theorem eu.drewN {w:World} {po pb kb:Nat} {vn vb:Value} {D:Dag} {kn:List Int} (h:eu w po pb kb vn vb D kn) (n:Nat):eu (w.drewN n) po pb kb vn vb D kn:=h.grown ⟨rfl,rfl,rfl,Nat.le_refl _,fun _ _ _=>rfl⟩ h.own
theorem jl {l:List Int} {k j:Nat} {x:Int} (hk:k<l.length):zat (l.set k x) j=if k=j then x else zat l j:=by
 unfold zat
 rw[List.getElem?_set]
 split
 · rename_i e;subst e;simp
 · rfl
def kX (D:Dag) (kn:List Int) (m:Nat):Prop:=∀ i j,i<D.length→j<D.length→i+j<m →
 zat kn (i*D.length+j)=0∨(zat kn (i*D.length+j)=1∧Ge (vl D i) (vl D j))∨(zat kn (i*D.length+j)=2∧¬ Ge (vl D i) (vl D j))
def nN (D:Dag) (kn kn':List Int) (m:Nat):Prop:=∀ i j,i<D.length→j<D.length→m≤i+j→zat kn' (i*D.length+j)=zat kn (i*D.length+j)
def Fb (po pb kb:Nat) (vn vb:Value) (D:Dag) (kn:List Int) (x y M m:Nat) (w:World) (e:Ending) (w':World):Prop :=
 ∃ g kn',e=.returned (.bool g)∧(g=true↔Ge (vl D x) (vl D y))∧eu w' po pb kb vn vb D kn'∧w.grownBy w' (some kb)∧kX D kn' M∧nN D kn kn' m
def Ih (m:Nat):Prop:=∀ (po pb kb:Nat) (vn vb:Value) (D:Dag) (kn:List Int) (x y M:Nat) (w:World),eu w po pb kb vn vb D kn→x<D.length→y<D.length→x+y<m→x+y<M→kX D kn M →
 Calls prog 208 #[.pointer (some ⟨po,0,none⟩),.int .i64 x,.int .i64 y] w (Fb po pb kb vn vb D kn x y M (x+y+1) w)
def J9 (m:Nat):Prop:=∀ (po pb kb:Nat) (vn vb:Value) (D:Dag) (kn:List Int) (x y:Nat) (w:World),eu w po pb kb vn vb D kn→x<D.length→y<D.length→x+y<m→kX D kn (x+y) →
 Calls prog 238 #[.pointer (some ⟨po,0,none⟩),.int .i64 x,.int .i64 y] w (Fb po pb kb vn vb D kn x y (x+y) (x+y) w)
set_option maxHeartbeats 1000000 in
theorem Ms {m:Nat} (NF:J9 m):Ih m:=by
 intro po pb kb vn vb D kn x y M w hO hx hy hm hM hH
 have hB:=hO.at
 have hds:=hB.small
 obtain⟨xs,hown,_⟩:=hB.nodes
 obtain⟨an,cn,rfl,hn1,hn2⟩:=az hown
 have c0:=hO.cell0
 have c1:=hO.cell1
 have b0:=hB.cell0
 have hidx:=Jv hx hy
 have hk:=hO.known hidx
 have hf:=hO.free (x*D.length+y)
 have hp:(x:Int)*((D.length:Nat):Int)=((x*D.length:Nat):Int):=by simp
 have hpb:x*D.length≤1000000000000:=Nat.le_trans (Nat.mul_le_mul (Nat.le_trans (Nat.le_of_lt hx) hds) hds) (by decide)
 have hsz:D.length*D.length≤1000000000000:=Nat.le_trans (Nat.mul_le_mul hds hds) (by decide)
 go_enter Tryz.func208,Tryz.ntmps208
 generalize hpd:x*D.length=p at *
 generalize hqd:D.length*D.length=q at *
 have Gu:p+y<D.length*D.length:=by rw[hqd];exact hidx
 by_cases hz:zat kn (p+y)=0
 · have hz0:(zat kn (p+y) == 0)=true:=by simp[hz]
   have hS:=hO.set (p+y) 2
   have hl1:p+y<kn.length:=by rw[hO.len];exact Gu
   have hH1:kX D (kn.set (p+y) 2) (x+y):=by
    intro i j hi hj hij
    have hne:¬ p+y=i*D.length+j:=by rw[← hpd];intro e;have:=rD hy hj e;omega
    rw[jl hl1,if_neg hne]
    exact hH i j hi hj (by omega)
   have HH:=Hd_ hH
   have HL:=Hd_ NF
   have HP:=Hd_ hpd
   have HQ:=Hd_ hqd
   have HO:=Hd_ hO
   have HI:=Hd_ Gu
   clear hH NF hpd hz
   clear hqd Gu
   by_cases hge:Ge (vl D x) (vl D y)
   · go_wp2_with (go_at_call 238;refine(HL.out _ _ _ _ _ _ _ x y _ hS.1 hx hy hm hH1).mono ?_;rintro e w1 ⟨g,kn2,rfl,hg,hO2,hgr,hH2,hA2⟩
                  have c1':=hO2.cell1;rw[HQ.out] at c1'
                  have hk2:=hO2.known HI.out
                  have hf2:=hO2.free (p+y)
                  have hv2:zat kn2 (p+y)=2:=by
                   have h:=hA2 x y hx hy (Nat.le_refl _)
                   rw[HP.out,jl hl1,if_pos rfl] at h;exact h
                  rw[hv2] at hk2
                  obtain rfl:g=true:=hg.2 hge
                  clear hg
                  have hl2:p+y<kn2.length:=by rw[hO2.len];exact HI.out
                  have hS3:=hO2.set (p+y) 1
                  have TV:=hS3.1.cell1;rw[HQ.out] at TV
                  have hk3:=hS3.1.known HI.out
                  rw[jl hl2,if_pos rfl] at hk3)
     go_ret
     refine⟨_,kn2.set (p+y) 1,rfl,by simp[hge],hS3.1,(hS.2.trans hgr).trans hS3.2,?_,?_⟩
     · intro i j hi hj hij
       by_cases hne:p+y=i*D.length+j
       · obtain⟨e1,e2⟩:=rD (i:=x) (i':=i) hy hj (by rw[HP.out];exact hne)
         rw[← hne,← e1,← e2,jl hl2,if_pos rfl];exact .inr (.inl ⟨rfl,hge⟩)
       · rw[jl hl2,if_neg hne]
         by_cases hlt:i+j<x+y
         · exact hH2 i j hi hj hlt
         · rw[hA2 i j hi hj (by omega),jl hl1,if_neg hne];exact HH.out i j hi hj hij
     · intro i j hi hj hij
       have hne:¬ p+y=i*D.length+j:=by rw[← HP.out];intro e;have:=rD hy hj e;omega
       rw[jl hl2,if_neg hne,hA2 i j hi hj (by omega),jl hl1,if_neg hne]
   · go_wp2_with (go_at_call 238;refine(HL.out _ _ _ _ _ _ _ x y _ hS.1 hx hy hm hH1).mono ?_;rintro e w1 ⟨g,kn2,rfl,hg,hO2,hgr,hH2,hA2⟩
                  have c1':=hO2.cell1;rw[HQ.out] at c1'
                  have hk2:=hO2.known HI.out
                  have hf2:=hO2.free (p+y)
                  have hv2:zat kn2 (p+y)=2:=by
                   have h:=hA2 x y hx hy (Nat.le_refl _)
                   rw[HP.out,jl hl1,if_pos rfl] at h;exact h
                  rw[hv2] at hk2
                  obtain rfl:g=false:=by simpa using (fun e=>hge (hg.1 e))
                  clear hg)
     go_ret
     refine⟨_,kn2,rfl,by simp[hge],hO2,hS.2.trans hgr,?_,?_⟩
     · intro i j hi hj hij
       by_cases hne:p+y=i*D.length+j
       · obtain⟨e1,e2⟩:=rD (i:=x) (i':=i) hy hj (by rw[HP.out];exact hne)
         rw[← hne,← e1,← e2];exact .inr (.inr ⟨hv2,hge⟩)
       · by_cases hlt:i+j<x+y
         · exact hH2 i j hi hj hlt
         · rw[hA2 i j hi hj (by omega),jl hl1,if_neg hne];exact HH.out i j hi hj hij
     · intro i j hi hj hij
       have hne:¬ p+y=i*D.length+j:=by rw[← HP.out];intro e;have:=rD hy hj e;omega
       rw[hA2 i j hi hj (by omega),jl hl1,if_neg hne]
 · have hz0:(zat kn (p+y) == 0)=false:=by simpa using hz
   go_wp2
   go_ret
   refine⟨_,kn,rfl,?_,hO,World.grownBy.refl _ _,hH,fun _ _ _ _ _=>rfl⟩
   rcases hH x y hx hy hM with h | ⟨h,h'⟩ | ⟨h,h'⟩
   · rw[hpd] at h;exact absurd h hz
   · rw[hpd] at h;simp[h,h']
   · rw[hpd] at h;simp[h,h']
theorem kX.mono {D:Dag} {kn:List Int} {m m':Nat} (h:kX D kn m) (hm:m'≤m):kX D kn m':=fun i j hi hj hij=>h i j hi hj (by omega)
theorem nN.trans {D:Dag} {a b c:List Int} {m:Nat} (h:nN D a b m) (k:nN D b c m):nN D a c m:=fun i j hi hj hij=>(k i j hi hj hij).trans (h i j hi hj hij)
theorem nN.mono {D:Dag} {a b:List Int} {m m':Nat} (h:nN D a b m) (hm:m≤m'):nN D a b m':=fun i j hi hj hij=>h i j hi hj (by omega)
theorem uw {D:Dag} (hD:Cgt.WF D) {x y k:Nat} (hx:x<D.length) (hk:k<(D[x]).2.length) (h:Ge (vl D y) (vl D (D[x]).2[k])):¬ Ge (vl D x) (vl D y):=by
 intro g
 refine((Cgt.dZ _ _).1 g).1 _ ?_ h
 rw[Cgt.gZ hD (List.getElem?_eq_getElem hx)]
 exact List.mem_map.2 ⟨_,List.getElem_mem hk,rfl⟩
theorem uy {D:Dag} (hD:Cgt.WF D) {x y k:Nat} (hy:y<D.length) (hk:k<(D[y]).1.length) (h:Ge (vl D (D[y]).1[k]) (vl D x)):¬ Ge (vl D x) (vl D y):=by
 intro g
 refine((Cgt.dZ _ _).1 g).2 _ ?_ h
 rw[Cgt.ib hD (List.getElem?_eq_getElem hy)]
 exact List.mem_map.2 ⟨_,List.getElem_mem hk,rfl⟩
theorem Ar {D:Dag} (hD:Cgt.WF D) {x y:Nat} (hx:x<D.length) (hy:y<D.length) (hr:∀ j (h:j<(D[x]).2.length),¬ Ge (vl D y) (vl D (D[x]).2[j])) (hl:∀ j (h:j<(D[y]).1.length),¬ Ge (vl D (D[y]).1[j]) (vl D x)):Ge (vl D x) (vl D y):=by
 rw[Cgt.dZ,Cgt.gZ hD (List.getElem?_eq_getElem hx),Cgt.ib hD (List.getElem?_eq_getElem hy)]
 constructor
 · intro r hr'
   obtain⟨i,hi,rfl⟩:=List.mem_map.1 hr'
   obtain⟨j,hj,rfl⟩:=List.mem_iff_getElem.1 hi
   exact hr j hj
 · intro r hr'
   obtain⟨i,hi,rfl⟩:=List.mem_map.1 hr'
   obtain⟨j,hj,rfl⟩:=List.mem_iff_getElem.1 hi
   exact hl j hj
theorem uq {D:Dag} {l:List Nat} {y k:Nat} (hk:k<l.length) (h:Hid (∀ j (h:j<l.length),j<k→¬ Ge (vl D y) (vl D l[j]))) (hn:¬ Ge (vl D y) (vl D l[k])):Hid (∀ j (h:j<l.length),j<k+1→¬ Ge (vl D y) (vl D l[j])):=by
 intro j hj hjk
 by_cases e:j=k
 · subst e;exact hn
 · exact h j hj (by omega)
theorem sH {D:Dag} {l:List Nat} {x k:Nat} (hk:k<l.length) (h:Hid (∀ j (h:j<l.length),j<k→¬ Ge (vl D l[j]) (vl D x))) (hn:¬ Ge (vl D l[k]) (vl D x)):Hid (∀ j (h:j<l.length),j<k+1→¬ Ge (vl D l[j]) (vl D x)):=by
 intro j hj hjk
 by_cases e:j=k
 · subst e;exact hn
 · exact h j hj (by omega)
set_option maxHeartbeats 1000000 in
theorem Jj {m:Nat} (CR:Ih m):J9 (m+1):=by
 intro po pb kb vn vb D kn x y w hO hx hy hm hH
 have hB:=hO.at
 have hds:=hB.small
 have hD:=hB.good.wf
 have HD:=Hd_ hD
 have hxw:=hD x _ (List.getElem?_eq_getElem hx)
 have hyw:=hD y _ (List.getElem?_eq_getElem hy)
 go_enter Tryz.func238,Tryz.ntmps238
 go_wp2
 go_loopw [7] (fun i wr=>∃ k kn',k≤(D[x]).2.length∧i=.int .i64 ((k:Nat):Int)∧eu wr po pb kb vn vb D kn'∧w.grownBy wr (some kb)∧kX D kn' (x+y)∧nN D kn kn' (x+y)∧Hid (∀ j (h:j<(D[x]).2.length),j<k→¬ Ge (vl D y) (vl D (D[x]).2[j]))) (fun i _=>(D[x]).2.length-(intOf i).toNat)
 case atStart=>exact⟨0,kn,Nat.zero_le _,rfl,hO,World.grownBy.refl _ _,hH,fun _ _ _ _ _=>rfl,fun j _ h=>absurd h (by omega)⟩
 case round =>
  obtain⟨k,kn',hk,rfl,hO',hgr,hH',hA',HN⟩:=hrel
  have hB':=hO'.at
  obtain⟨gn,He,L,R,rfl,hnl,hnc,hcL,hcR,hIL,hIR⟩:=hB'.nQ hx
  have c0:=hO'.cell0
  have b0:=hB'.cell0
  obtain⟨aR,Vs,rfl,hlR,SX,hcells⟩:=hIR
  rw[aj] at hlR SX hcells
  rw[aj] at hcR
  by_cases hlt:k<(D[x]).2.length
  · obtain⟨bR,oR,rfl,hcell⟩:=hcells (by omega)
    have hck:=hcell k hlt
    rw[dN hlt] at hck
    have hxr:=hxw.2 _ (List.getElem_mem hlt)
    have HO:=Hd_ hO'
    have HG:=Hd_ CR
    have HH:=Hd_ hH'
    have HA:=Hd_ hA'
    clear hcell hcells hIL CR hH' hA' hB' hB hO hH hD hyw hxw hO'
    by_cases hge:Ge (vl D y) (vl D (D[x]).2[k])
    · go_wp2_with (go_at_call 208;refine(HG.out _ _ _ _ _ _ _ y (D[x]).2[k] (x+y) _ HO.out hy (by omega) (by omega) (by omega) HH.out).mono ?_;rintro e w1 ⟨g,kn2,rfl,hg,hO2,ik,hH2,hA2⟩
                   obtain rfl:g=true:=hg.2 hge
                   clear hg)
      go_ret
      exact⟨false,kn2,rfl,by simpa using uw HD.out hx hlt hge,hO2,hgr.trans ik,hH2,HA.out.trans (hA2.mono (by omega))⟩
    · go_wp2_with (go_at_call 208;refine(HG.out _ _ _ _ _ _ _ y (D[x]).2[k] (x+y) _ HO.out hy (by omega) (by omega) (by omega) HH.out).mono ?_;rintro e w1 ⟨g,kn2,rfl,hg,hO2,ik,hH2,hA2⟩
                   obtain rfl:g=false:=by simpa using (fun e=>hge (hg.1 e))
                   clear hg)
      go_roundw
      case rel=>exact⟨k+1,kn2,by omega,by go_num,hO2,hgr.trans ik,hH2,HA.out.trans (hA2.mono (by omega)),uq hlt HN hge⟩
      case measure=>simp[intOf];omega
  · have hkl:k=(D[x]).2.length:=by omega
    subst hkl
    have HA:=Hd_ hA'
    clear hA' hcells hIL
    obtain⟨wo,rfl⟩:∃ wo:World,wo=wr:=⟨_,rfl⟩
    go_wp2
    go_loopw [8] (fun i wr=>∃ k kn2,k≤(D[y]).1.length∧i=.int .i64 ((k:Nat):Int)∧eu wr po pb kb (.slice (some ⟨gn,0,none⟩) D.length He) vb D kn2∧w.grownBy wr (some kb)∧kX D kn2 (x+y)∧nN D kn kn2 (x+y)∧Hid (∀ j (h:j<(D[y]).1.length),j<k→¬ Ge (vl D (D[y]).1[j]) (vl D x))) (fun i _=>(D[y]).1.length-(intOf i).toNat)
    case atStart=>exact⟨0,kn',Nat.zero_le _,rfl,hO',hgr,hH',HA.out,fun j _ h=>absurd h (by omega)⟩
    case round =>
     clear hO' hgr hH' hB' c0 b0 hcL hcR
     obtain⟨k,kn3,hk,rfl,hO',hgr,hH',hA',HN2⟩:=hrel
     have hB':=hO'.at
     obtain⟨gn',UD,L,R,he,CF,hnc',hcL,hcR,hIL,hIR⟩:=hB'.nQ hy
     simp only[Value.slice.injEq,Option.some.injEq,Addr.mk.injEq,true_and,and_true] at he
     obtain⟨rfl,rfl⟩:=he
     have c0:=hO'.cell0
     have b0:=hB'.cell0
     obtain⟨aL,Vt,rfl,hlL,SY,hcells⟩:=hIL
     rw[aj] at hlL SY hcells
     rw[aj] at hcL
     by_cases hlt:k<(D[y]).1.length
     · obtain⟨bL,oL,rfl,hcell⟩:=hcells (by omega)
       have hck:=hcell k hlt
       rw[dN hlt] at hck
       have hyl:=hyw.1 _ (List.getElem_mem hlt)
       have HO:=Hd_ hO'
       have HG:=Hd_ CR
       have HH:=Hd_ hH'
       have HA2:=Hd_ hA'
       clear hcell hcells hIR CR hH' hA' hB' hB hO hH hD hyw hxw hO'
       by_cases hge:Ge (vl D (D[y]).1[k]) (vl D x)
       · go_wp2_with (go_at_call 208;refine(HG.out _ _ _ _ _ _ _ (D[y]).1[k] x (x+y) _ HO.out (by omega) hx (by omega) (by omega) HH.out).mono ?_;rintro e w1 ⟨g,kn4,rfl,hg,hO2,ik,hH2,hA2⟩
                      obtain rfl:g=true:=hg.2 hge
                      clear hg)
         go_ret
         exact⟨false,kn4,rfl,by simpa using uy HD.out hy hlt hge,hO2,hgr.trans ik,hH2,HA2.out.trans (hA2.mono (by omega))⟩
       · go_wp2_with (go_at_call 208;refine(HG.out _ _ _ _ _ _ _ (D[y]).1[k] x (x+y) _ HO.out (by omega) hx (by omega) (by omega) HH.out).mono ?_;rintro e w1 ⟨g,kn4,rfl,hg,hO2,ik,hH2,hA2⟩
                      obtain rfl:g=false:=by simpa using (fun e=>hge (hg.1 e))
                      clear hg)
         go_roundw
         case rel=>exact⟨k+1,kn4,by omega,by go_num,hO2,hgr.trans ik,hH2,HA2.out.trans (hA2.mono (by omega)),sH hlt HN2 hge⟩
         case measure=>simp[intOf];omega
     · have HA2:=Hd_ hA'
       clear hA' hcells hIR CR
       go_wp2
       go_ret
       exact⟨true,kn3,rfl,by simpa using Ar HD.out hx hy (fun j h=>HN.out j h h) (fun j h=>HN2.out j h (by omega)),hO',hgr,hH',HA2.out⟩
theorem Rx:∀ m,Ih m:=by
 intro m
 induction m with
 | zero=>intro po pb kb vn vb D kn x y M w _ _ _ h;omega
 | succ m ih=>exact Ms (Jj ih)
end Go.Proofs.YteknjeohbcgpdaaGreatDoor