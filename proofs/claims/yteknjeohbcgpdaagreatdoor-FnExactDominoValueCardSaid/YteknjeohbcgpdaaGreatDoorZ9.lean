/-
  Contract of the reference's l6Dominated. (3 texts.)
-/
import Derived.Test.YteknjeohbcgpdaaGreatDoorZ8
import Derived.BigRegion
import Derived.Maps.RangeWalk
import Derived.Deep.RegionHeld3
set_option maxRecDepth 100000
namespace Go.Proofs.YteknjeohbcgpdaaGreatDoor
open Tryz
section
open Go.RowKit
open Cgt (Dag Nd vl Ge)
def Ord (w:World) (po pb kb:Nat) (vn vb:Value) (D:Dag):Prop:=∃ kn,eu w po pb kb vn vb D kn∧kX D kn (D.length+D.length)
theorem Ord.grown {w w':World} {po pb kb:Nat} {vn vb:Value} {D:Dag} (h:Ord w po pb kb vn vb D) (hg:w.grownBy w' none):Ord w' po pb kb vn vb D:=by
 obtain⟨kn,hO,hH⟩:=h
 exact⟨kn,hO.grown (hg.but _) (hO.own.kept hg (.inr (by simp[Value.ownBlock]))),hH⟩
theorem eZ {w w':World} (h:Ext w w'):w.grownBy w' none:=⟨h.os,h.tape,h.output,h.size,fun k hk _=>h.block k hk⟩
theorem rE (po pb kb:Nat) (vn vb:Value) (D:Dag) (x y:Nat) (w:World) (hO:Ord w po pb kb vn vb D) (hx:x<D.length) (hy:y<D.length) :
 Calls prog 208 #[.pointer (some ⟨po,0,none⟩),.int .i64 x,.int .i64 y] w fun e w'=>∃ g,e=.returned (.bool g)∧(g=true↔Ge (vl D x) (vl D y))∧Ord w' po pb kb vn vb D∧w.grownBy w' (some kb):=by
 obtain⟨kn,hO,hH⟩:=hO
 refine(Rx _ po pb kb vn vb D kn x y (D.length+D.length) w hO hx hy (Nat.lt_succ_self _) (by omega) hH).mono ?_
 rintro e w' ⟨g,kn',rfl,hg,hO',hgr,hH',_⟩
 exact⟨g,rfl,hg,⟨kn',hO',hH'⟩,hgr⟩
theorem Ord.at {w:World} {po pb kb:Nat} {vn vb:Value} {D:Dag} (h:Ord w po pb kb vn vb D):bu w pb vn vb D:=by obtain⟨kn,h,_⟩:=h;exact h.at
theorem Ord.cell0 {w:World} {po pb kb:Nat} {vn vb:Value} {D:Dag} (h:Ord w po pb kb vn vb D):w.cell? ⟨po,0,none⟩=some (.pointer (some ⟨pb,0,none⟩)):=by obtain⟨kn,h,_⟩:=h;exact h.cell0
theorem Ord.lists {w:World} {po pb kb:Nat} {vn vb:Value} {D:Dag} (h:Ord w po pb kb vn vb D) {i:Nat} (hi:i<D.length):∃ g cap L R,vn=.slice (some ⟨g,0,none⟩) D.length cap∧(∀ w',w.grownBy w' (some kb)→w'.cell? ⟨g,i*2,none⟩=some L∧w'.cell? ⟨g,i*2+1,none⟩=some R∧Ints w' L (toZ (D[i]).1)∧Ints w' R (toZ (D[i]).2))∧(∀ b,L.ownBlock=some b→b≠kb)∧(∀ b,R.ownBlock=some b→b≠kb):=by obtain⟨kn,h,_⟩:=h;exact h.lists i hi
theorem yw (q:Nat):(madeCells #[Value.int .i64 0] q).toList=(List.replicate q (0:Int)).map (Value.int .i64):=by
 apply List.ext_getElem?
 intro i
 by_cases h:i<q
 · simp[madeCells,h,Nat.mod_one]
 · simp[madeCells,h]
theorem Jd {w:World} {pb:Nat} {vn vb:Value} {D:Dag} (hB:bu w pb vn vb D) {W:World} (hW:W=((w.alloc (.cells (madeCells #[Value.int .i64 0] (D.length*D.length)) 3)).alloc (.cells #[.pointer (some ⟨pb,0,none⟩),.slice (some ⟨w.heap.size,0,none⟩) (D.length*D.length) (D.length*D.length)] 220)).drew) (po:Nat) (hpo:po=w.heap.size+1) :
 Ord W po pb w.heap.size vn vb D:=by
 subst hpo
 have hE:Ext w W:=by rw[hW];go_grown
 have hEg:∀ w',W.grownBy w' (some w.heap.size)→Ext w w':=fun w' hg=>aV hE hg (fun k hk=>by injection hk with hk;omega)
 have hds:=hB.small
 have hsz:D.length*D.length≤1000000000000:=Nat.le_trans (Nat.mul_le_mul hds hds) (by decide)
 refine⟨List.replicate (D.length*D.length) 0,⟨fun w' hg=>hB.ext (hEg w' hg),by omega,?_,?_,?_,?_⟩,?_⟩
 · rw[hW];exact World.cell?_alloc_at (w:=w.alloc _) _ _ _ 0 (by simp)
 · rw[hW];exact World.cell?_alloc_at (w:=w.alloc _) _ _ _ 1 (by simp)
 · rw[hW,← yw]
   exact((World.ownsRow_lit w _ _ (Nat.zero_le _) (by unfold maxLen;omega) (by rw[size_madeCells,Nat.mul_one])).alloc _)
 · intro i hi
   obtain⟨g,cap,L,R,h1,h2,h3,h4,h5,h6,h7,h8,h9⟩:=hB.Ca hi
   exact⟨g,cap,L,R,h1,fun w' hg=>⟨((hEg w' hg).cell (lt_of_cell h4)).trans h4,((hEg w' hg).cell (lt_of_cell h5)).trans h5,h6.ext (hEg w' hg),h7.ext (hEg w' hg)⟩,fun b hb=>by have:=(h8 b hb).2;omega,fun b hb=>by have:=(h9 b hb).2;omega⟩
 · intro i j hi hj _
   refine .inl ?_
   simp[zat,Jv hi hj]
set_option maxHeartbeats 1000000 in
theorem Cj (pb:Nat) (vn vb:Value) (D:Dag) (w:World) (hB:bu w pb vn vb D) :
 Calls prog 173 #[.pointer (some ⟨pb,0,none⟩)] w fun e w'=>∃ po kb,e=.returned (.pointer (some ⟨po,0,none⟩))∧Ord w' po pb kb vn vb D∧Ext w w'∧w.heap.size≤kb:=by
 have hds:=hB.small
 obtain⟨xs,hown,_⟩:=hB.nodes
 obtain⟨an,cn,rfl,hn1,hn2⟩:=az hown
 have b0:=hB.cell0
 have hsz:D.length*D.length≤1000000000000:=Nat.le_trans (Nat.mul_le_mul hds hds) (by decide)
 have hp:((D.length:Nat):Int)*((D.length:Nat):Int)=((D.length*D.length:Nat):Int):=by simp
 obtain⟨i0,hi,hz0,hz1,hz2⟩:=info_parts eO
 go_enter Tryz.func173,Tryz.ntmps173
 generalize hqd:D.length*D.length=q at *
 have hw:IntKind.i64.wrap (q:Int)=q:=by rw[IntKind.wrap_i64];omega
 have hmk:=run_make (P:=prog) w.drew 80 3 i0 (.int .i64 0) underlying80 hi hz0 .i64 .i64 (q:Int) (q:Int) (by omega) (by omega) (by rw[hz2];omega) (by omega)
 rw[hz1,Nat.mul_one,Int.toNat_natCast] at hmk
 go_wp2
 go_region
 go_wp2
 go_ret
 refine⟨_,w.heap.size,rfl,?_,by go_grown,Nat.le_refl _⟩
 subst hqd
 exact Jd hB rfl _ rfl
end
section
open Go.RowKit
open Cgt (Dag Nd vl Ge)
def opt (D:Dag) (left:Bool) (i:Nat):List Nat:=match D[i]? with
 | some nd=>if left then nd.1 else nd.2
 | none=>[]
def GeS (D:Dag) (left:Bool) (i j:Nat):Prop:=if left then Ge (vl D i) (vl D j) else Ge (vl D j) (vl D i)
def TW (D:Dag) (root x:Nat) (left:Bool) (v:Int):Prop :=
 (v=-1∧∀ y,y∈opt D (!left) x→¬ GeS D left root y)∨∃ y,y∈opt D (!left) x∧v=(y:Int)∧GeS D left root y
set_option maxHeartbeats 1000000 in
theorem Bf (po pb kb:Nat) (vn vb:Value) (D:Dag) (root x:Nat) (left:Bool) (w:World) (hO:Ord w po pb kb vn vb D) (hr:root<D.length) (hx:x<D.length) :
 Calls prog 206 #[.pointer (some ⟨po,0,none⟩),.int .i64 root,.int .i64 x,.bool left] w fun e w'=>∃ v:Int,e=.returned (.int .i64 v)∧TW D root x left v∧Ord w' po pb kb vn vb D∧w.grownBy w' (some kb):=by
 have hds:=hO.at.small
 have hxw:=hO.at.good.wf x _ (List.getElem?_eq_getElem hx)
 go_enter Tryz.func206,Tryz.ntmps206
 cases left
 ·
  obtain⟨gn,cn,L,R,rfl,hG,-,-⟩:=hO.lists hx
  obtain⟨gL,gR,iL,iR⟩:=hG w (World.grownBy.refl _ _)
  have c0:=hO.cell0
  have b0:=hO.at.cell0
  obtain⟨a,cap,rfl,hlc,hcap,hcw⟩:=iL
  have hI:∀ w',w.grownBy w' (some kb)→Ints w' (.slice a (toZ (D[x]).1).length cap) (toZ (D[x]).1):=fun w' hg=>(hG w' hg).2.2.1
  rw[aj] at hlc hcap gL hI
  have HI:=Hd_ hI
  have HW:=Hd_ hxw
  clear hcw hG hI
  go_wp2
  go_loopw [12] (fun i wr=>∃ k,k≤(D[x]).1.length∧i=.int .i64 ((k:Nat):Int)∧Ord wr po pb kb (.slice (some ⟨gn,0,none⟩) D.length cn) vb D∧w.grownBy wr (some kb)∧Hid (∀ j (h:j<(D[x]).1.length),j<k→¬ Ge (vl D (D[x]).1[j]) (vl D root))) (fun i _=>(D[x]).1.length-(intOf i).toNat)
  case atStart=>exact⟨0,Nat.zero_le _,rfl,hO,World.grownBy.refl _ _,fun j _ h=>absurd h (by omega)⟩
  case round =>
   clear c0 b0
   obtain⟨k,hk,rfl,hO',hgr,HN⟩:=hrel
   obtain⟨a0,cap0,he,_,_,hcells⟩:=HI.out _ hgr
   simp only[Value.slice.injEq,aj] at he
   obtain⟨rfl,-,rfl⟩:=he
   rw[aj] at hcells
   by_cases hlt:k<(D[x]).1.length
   · obtain⟨b,o,rfl,hcell⟩:=hcells (by omega)
     have hck:=hcell k hlt
     rw[dN hlt] at hck
     have hxr:=HW.out.1 _ (List.getElem_mem hlt)
     clear hcell hcells
     by_cases hge:Ge (vl D (D[x]).1[k]) (vl D root)
     · go_wp2_with (go_at_call 208;refine(rE _ _ _ _ _ _ (D[x]).1[k] root _ hO' (by omega) hr).mono ?_;rintro e w1 ⟨g,rfl,hg,hO2,ik⟩
                    obtain rfl:g=true:=hg.2 hge
                    have uN:w1.cell? ⟨b,o+k,none⟩=some (.int .i64 ((D[x]).1[k]:Int)):=by
                     obtain⟨a0,cap0,he,_,_,hcells⟩:=HI.out _ (hgr.trans ik)
                     simp only[Value.slice.injEq,aj] at he
                     obtain⟨rfl,-,rfl⟩:=he
                     rw[aj] at hcells
                     obtain⟨b',o',he',hcell⟩:=hcells (by omega)
                     simp only[Option.some.injEq,Addr.mk.injEq,and_true] at he'
                     obtain⟨rfl,rfl⟩:=he'
                     rw[hcell k hlt,dN hlt]
                    clear hg)
       go_ret
       exact⟨_,rfl,.inr ⟨(D[x]).1[k],by simp[opt,hx],rfl,by simpa [GeS] using hge⟩,hO2,hgr.trans ik⟩
     · go_wp2_with (go_at_call 208;refine(rE _ _ _ _ _ _ (D[x]).1[k] root _ hO' (by omega) hr).mono ?_;rintro e w1 ⟨g,rfl,hg,hO2,ik⟩
                    obtain rfl:g=false:=by simpa using (fun e=>hge (hg.1 e))
                    clear hg)
       go_roundw
       case rel=>exact⟨k+1,by omega,by go_num,hO2,hgr.trans ik,sH hlt HN hge⟩
       case measure=>simp[intOf];omega
   · clear hcells
     go_wp2
     go_ret
     refine⟨-1,rfl,.inl ⟨rfl,fun y hy=>?_⟩,hO',hgr⟩
     rw[show opt D (!false) x=(D[x]).1 by simp[opt,hx]] at hy
     obtain⟨j,hj,rfl⟩:=List.mem_iff_getElem.1 hy
     simpa [GeS] using HN.out j hj (by omega)
 ·
  obtain⟨gn,cn,L,R,rfl,hG,-,-⟩:=hO.lists hx
  obtain⟨gL,gR,iL,iR⟩:=hG w (World.grownBy.refl _ _)
  have c0:=hO.cell0
  have b0:=hO.at.cell0
  obtain⟨a,cap,rfl,hlc,hcap,hcw⟩:=iR
  have hI:∀ w',w.grownBy w' (some kb)→Ints w' (.slice a (toZ (D[x]).2).length cap) (toZ (D[x]).2):=fun w' hg=>(hG w' hg).2.2.2
  rw[aj] at hlc hcap gR hI
  have HI:=Hd_ hI
  have HW:=Hd_ hxw
  clear hcw hG hI
  go_wp2
  go_loopw [10] (fun i wr=>∃ k,k≤(D[x]).2.length∧i=.int .i64 ((k:Nat):Int)∧Ord wr po pb kb (.slice (some ⟨gn,0,none⟩) D.length cn) vb D∧w.grownBy wr (some kb)∧Hid (∀ j (h:j<(D[x]).2.length),j<k→¬ Ge (vl D root) (vl D (D[x]).2[j]))) (fun i _=>(D[x]).2.length-(intOf i).toNat)
  case atStart=>exact⟨0,Nat.zero_le _,rfl,hO,World.grownBy.refl _ _,fun j _ h=>absurd h (by omega)⟩
  case round =>
   clear c0 b0
   obtain⟨k,hk,rfl,hO',hgr,HN⟩:=hrel
   obtain⟨a0,cap0,he,_,_,hcells⟩:=HI.out _ hgr
   simp only[Value.slice.injEq,aj] at he
   obtain⟨rfl,-,rfl⟩:=he
   rw[aj] at hcells
   by_cases hlt:k<(D[x]).2.length
   · obtain⟨b,o,rfl,hcell⟩:=hcells (by omega)
     have hck:=hcell k hlt
     rw[dN hlt] at hck
     have hxr:=HW.out.2 _ (List.getElem_mem hlt)
     clear hcell hcells
     by_cases hge:Ge (vl D root) (vl D (D[x]).2[k])
     · go_wp2_with (go_at_call 208;refine(rE _ _ _ _ _ _ root (D[x]).2[k] _ hO' hr (by omega)).mono ?_;rintro e w1 ⟨g,rfl,hg,hO2,ik⟩
                    obtain rfl:g=true:=hg.2 hge
                    have uN:w1.cell? ⟨b,o+k,none⟩=some (.int .i64 ((D[x]).2[k]:Int)):=by
                     obtain⟨a0,cap0,he,_,_,hcells⟩:=HI.out _ (hgr.trans ik)
                     simp only[Value.slice.injEq,aj] at he
                     obtain⟨rfl,-,rfl⟩:=he
                     rw[aj] at hcells
                     obtain⟨b',o',he',hcell⟩:=hcells (by omega)
                     simp only[Option.some.injEq,Addr.mk.injEq,and_true] at he'
                     obtain⟨rfl,rfl⟩:=he'
                     rw[hcell k hlt,dN hlt]
                    clear hg)
       go_ret
       exact⟨_,rfl,.inr ⟨(D[x]).2[k],by simp[opt,hx],rfl,by simpa [GeS] using hge⟩,hO2,hgr.trans ik⟩
     · go_wp2_with (go_at_call 208;refine(rE _ _ _ _ _ _ root (D[x]).2[k] _ hO' hr (by omega)).mono ?_;rintro e w1 ⟨g,rfl,hg,hO2,ik⟩
                    obtain rfl:g=false:=by simpa using (fun e=>hge (hg.1 e))
                    clear hg)
       go_roundw
       case rel=>exact⟨k+1,by omega,by go_num,hO2,hgr.trans ik,uq hlt HN hge⟩
       case measure=>simp[intOf];omega
   · clear hcells
     go_wp2
     go_ret
     refine⟨-1,rfl,.inl ⟨rfl,fun y hy=>?_⟩,hO',hgr⟩
     rw[show opt D (!true) x=(D[x]).2 by simp[opt,hx]] at hy
     obtain⟨j,hj,rfl⟩:=List.mem_iff_getElem.1 hy
     simpa [GeS] using HN.out j hj (by omega)
end
section
open Go.RowKit
open Cgt (Dag Nd vl Ge)
theorem OZ {l:List Int} (h:l.Pairwise (· < ·)) {a:Int} {n:Nat} (hb:∀ y,y∈l→a≤y∧y<a+n):l.length≤n:=by
 induction l generalizing a n with
 | nil=>simp
 | cons x l ih =>
   have hx:=hb x (by simp)
   have hl:=List.pairwise_cons.1 h
   cases n with
   | zero=>omega
   | succ n =>
     have:=ih hl.2 (a:=a+1) (n:=n) (fun y hy=>by have:=hl.1 y hy;have:=hb y (by simp[hy]);omega)
     simp;omega
def gy (D:Dag) (left:Bool) (l:List Nat) (i k:Nat):Prop:=k≠i∧GeS D left (l.getD k 0) (l.getD i 0)∧(¬ GeS D left (l.getD i 0) (l.getD k 0)∨k<i)
def Dom (D:Dag) (left:Bool) (l:List Nat) (i:Nat):Prop:=∃ k,k<l.length∧gy D left l i k
structure dx (D:Dag) (left:Bool) (l:List Nat) (z:List Int) (i k:Nat):Prop where
 asc:z.Pairwise (· < ·)
 bd:∀ y,y∈z→0≤y∧y<l.length
 mem:∀ j:Nat,(j:Int)∈z↔(j<i∧Dom D left l j)∨(j=i∧∃ k',k'<k∧gy D left l i k')
theorem dx.len {D:Dag} {left:Bool} {l:List Nat} {z:List Int} {i k:Nat} (h:dx D left l z i k):z.length≤l.length:=OZ h.asc (a:=0) (fun y hy=>by have:=h.bd y hy;omega)
theorem dx.nil (D:Dag) (left:Bool) (l:List Nat):dx D left l [] 0 0:=⟨List.Pairwise.nil,by simp,by simp⟩
theorem dx.no {D:Dag} {left:Bool} {l:List Nat} {z:List Int} {i k:Nat} (h:dx D left l z i k) (hn:¬ gy D left l i k):dx D left l z i (k+1):=by
 refine⟨h.asc,h.bd,fun j=>?_⟩
 rw[h.mem]
 refine or_congr Iff.rfl (and_congr Iff.rfl ⟨fun ⟨k',a,b⟩=>⟨k',by omega,b⟩,fun ⟨k',a,b⟩=>⟨k',?_,b⟩⟩)
 rcases Nat.lt_or_ge k' k with c | c
 · exact c
 · have:k'=k:=by omega
   subst this;exact absurd b hn
theorem dx.yes {D:Dag} {left:Bool} {l:List Nat} {z:List Int} {i k:Nat} (h:dx D left l z i k) (hi:i<l.length) (hn:gy D left l i k):dx D left l (iW z i) i (k+1):=by
 refine⟨BO h.asc,fun y hy=>?_,fun j=>?_⟩
 · rcases xc.1 hy with hy | rfl
   · exact h.bd y hy
   · omega
 · rw[xc,h.mem]
   constructor
   · rintro((a | ⟨a,k',b,c⟩) | a)
     · exact .inl a
     · exact .inr ⟨a,k',by omega,c⟩
     · exact .inr ⟨by omega,k,by omega,hn⟩
   · rintro(a | ⟨a,k',b,c⟩)
     · exact .inl (.inl a)
     · exact .inr (by omega)
theorem dx.next {D:Dag} {left:Bool} {l:List Nat} {z:List Int} {i:Nat} (h:dx D left l z i l.length):dx D left l z (i+1) 0:=by
 refine⟨h.asc,h.bd,fun j=>?_⟩
 rw[h.mem]
 constructor
 · rintro(⟨a,b⟩ | ⟨rfl,k',b,c⟩)
   · exact .inl ⟨by omega,b⟩
   · exact .inl ⟨by omega,k',b,c⟩
 · rintro(⟨a,b⟩ | ⟨_,k',b,_⟩)
   · rcases Nat.lt_or_ge j i with c | c
     · exact .inl ⟨c,b⟩
     · have:j=i:=by omega
       subst this;exact .inr ⟨rfl,b⟩
   · omega
theorem oG {w w':World} {kb:Nat} {v:Value} {l:List Int} (h:Ints w v l) (hg:w.grownBy w' (some kb)) (hk:∀ b,v.ownBlock=some b→b≠kb):Ints w' v l :=
 h.keep (fun b hl hb=>hg.block b (h.blk hl hb) (by simpa using hk b hb))
theorem Ord.Bq {w:World} {po pb kb:Nat} {vn vb:Value} {D:Dag} (h:Ord w po pb kb vn vb D):kb<w.heap.size:=by
 obtain⟨kn,hO,_⟩:=h
 exact(hO.own.lt kb rfl).2
structure vo (po pb kb:Nat) (vn vb:Value) (D:Dag) (w:World) (row:Option Nat) (w':World):Prop where
 ord:Ord w' po pb kb vn vb D
 gr:w.grownBy w' row
theorem vo.drew {po pb kb:Nat} {vn vb:Value} {D:Dag} {w:World} {row:Option Nat} {w':World} (h:vo po pb kb vn vb D w row w'):vo po pb kb vn vb D w row w'.drew:=⟨h.ord.grown ⟨rfl,rfl,rfl,Nat.le_refl _,fun _ _ _=>rfl⟩,⟨h.gr.os,h.gr.tape,h.gr.output,h.gr.size,h.gr.block⟩⟩
theorem Ox (po pb kb:Nat) (vn vb:Value) (D:Dag) (wr:World) (b o1 o2:Nat) (u1 u2:Value) (x y:Nat) (w:World) (hb:b≠kb) (hS:vo po pb kb vn vb D wr (some kb) w∧w.cell? ⟨b,o1,none⟩=some u1∧w.cell? ⟨b,o2,none⟩=some u2) (hx:x<D.length) (hy:y<D.length) (g:Bool) (hgg:g=true↔Ge (vl D x) (vl D y)) :
 Calls prog 208 #[.pointer (some ⟨po,0,none⟩),.int .i64 x,.int .i64 y] w fun e w'=>e=.returned (.bool g)∧(vo po pb kb vn vb D wr (some kb) w'∧w'.cell? ⟨b,o1,none⟩=some u1∧w'.cell? ⟨b,o2,none⟩=some u2):=by
 refine(rE po pb kb vn vb D x y w hS.1.ord hx hy).mono ?_
 rintro e w' ⟨g',rfl,hg,hO,hgr⟩
 obtain rfl:g'=g:=Bool.eq_iff_iff.2 (hg.trans hgg.symm)
 exact⟨rfl,⟨hO,hS.1.gr.trans hgr⟩,hgr.cell hS.2.1 (by simpa using hb),hgr.cell hS.2.2 (by simpa using hb)⟩
set_option maxHeartbeats 2000000 in
theorem qp (po pb kb:Nat) (vn vb v:Value) (D:Dag) (l:List Nat) (left:Bool) (w:World) (hO:Ord w po pb kb vn vb D) (hv:Ints w v (toZ l)) (hvk:∀ b,v.ownBlock=some b→b≠kb) (hl:∀ x,x∈l→x<D.length) (hll:l.length≤1000000) :
 Calls prog 176 #[.pointer (some ⟨po,0,none⟩),v,.bool left] w fun e w'=>∃ v' z,e=.returned v'∧Ints w' v' z∧dx D left l z l.length 0∧Ord w' po pb kb vn vb D∧w.grownBy w' (some kb)∧(∀ b,v'.ownBlock=some b→w.heap.size≤b∧b<w'.heap.size):=by
 have hkb:=hO.Bq
 have HV:=Hd_ hv
 obtain⟨a,cap,rfl,hlc,hcap,hcells⟩:=hv
 rw[aj] at hlc hcap hcells
 rw[aj] at HV ⊢
 go_enter Tryz.func176,Tryz.ntmps176
 go_wp2
 go_loopw [7,8] (fun o i wr=>∃ k z,k≤l.length∧i=.int .i64 ((k:Nat):Int)∧Ints wr o z∧dx D left l z k 0∧Ord wr po pb kb vn vb D∧w.grownBy wr (some kb)∧Hid (∀ b,o.ownBlock=some b→w.heap.size≤b∧b<wr.heap.size)) (fun _ i _=>l.length-(intOf i).toNat)
 case atStart=>exact⟨0,[],Nat.zero_le _,rfl,Ints.nil _ _ _,dx.nil _ _ _,hO.grown (eZ (by go_grown)),(eZ (by go_grown)).but _,fun b hb=>by simp[Value.ownBlock] at hb;subst hb;simp⟩
 case round =>
  obtain⟨i,z,hi,rfl,hI,hinv,hO1,hgr,HF⟩:=hrel
  by_cases hlt:i<l.length
  · obtain⟨wo,rfl⟩:∃ wo:World,wo=wr:=⟨_,rfl⟩
    go_wp2
    go_loopw [7,9,10,11] (fun o kk u1 u2 wr=>∃ k z,k≤l.length∧kk=.int .i64 ((k:Nat):Int)∧Ints wr o z∧dx D left l z i k∧Ord wr po pb kb vn vb D∧w.grownBy wr (some kb)∧Hid (∀ b,o.ownBlock=some b→w.heap.size≤b∧b<wr.heap.size)) (fun _ kk _ _ _=>l.length-(intOf kk).toNat)
    case atStart=>exact⟨0,z,Nat.zero_le _,rfl,hI,hinv,hO1,hgr,HF⟩
    case round =>
     clear hI hinv hO1 hgr HF
     obtain⟨k,z,hk,rfl,hI,hinv,hO1,hgr,HF⟩:=hrel
     by_cases hkt:k<l.length
     · obtain⟨b,o,rfl,hcell⟩:=hcells (by omega)
       have hbk:b≠kb:=hvk b rfl
       have ck:=hgr.cell (hcell k hkt) (by simpa using hbk)
       have ci:=hgr.cell (hcell i hlt) (by simpa using hbk)
       rw[dN hkt] at ck
       rw[dN hlt] at ci
       have hS0:vo po pb kb vn vb D wr (some kb) wr∧wr.cell? ⟨b,o+k,none⟩=some (.int .i64 (l[k]:Int))∧wr.cell? ⟨b,o+i,none⟩=some (.int .i64 (l[i]:Int)):=⟨⟨hO1,World.grownBy.refl _ _⟩,ck,ci⟩
       obtain⟨hS1,hS2,hS3⟩:=hS0
       clear hcell hcells
       have hlk:=hl _ (List.getElem_mem hkt)
       have hli:=hl _ (List.getElem_mem hlt)
       obtain⟨g1,hg1⟩:∃ g:Bool,g=true↔Ge (vl D l[k]) (vl D l[i]):=by by_cases h:Ge (vl D l[k]) (vl D l[i]);exact⟨true,by simp[h]⟩;exact⟨false,by simp[h]⟩
       obtain⟨g2,hg2⟩:∃ g:Bool,g=true↔Ge (vl D l[i]) (vl D l[k]):=by by_cases h:Ge (vl D l[i]) (vl D l[k]);exact⟨true,by simp[h]⟩;exact⟨false,by simp[h]⟩
       go_wp2_with fail
       go_region_held3 (fun w'=>vo po pb kb vn vb D wr (some kb) w'∧w'.cell? ⟨b,o+k,none⟩=some (.int .i64 (l[k]:Int))∧w'.cell? ⟨b,o+i,none⟩=some (.int .i64 (l[i]:Int))) (refine⟨?_,?_,?_⟩ <;> first | assumption | exact vo.drew (by assumption)) (first
        | (go_at_call 208;refine(Ox po pb kb vn vb D wr b (o+k) (o+i) _ _ _ _ _ hbk (by first | assumption | exact⟨by assumption,by assumption,by assumption⟩) (by assumption) (by assumption) _ (by first | exact hg1 | exact hg2)).mono ?_;rintro e w1 ⟨rfl,hSa,hSb,hSc⟩))
       have hIz:Ints w1 u7 z:=oG hI hSa.gr (fun b hb=>by have:=HF.out b hb;omega)
       have hF1:∀ b,u7.ownBlock=some b→w.heap.size≤b∧b<w1.heap.size:=fun b hb=>⟨(HF.out b hb).1,Nat.lt_of_lt_of_le (HF.out b hb).2 hSa.gr.size⟩
       have hzl:z.length≤1000000000:=by have:=hinv.len;omega
       have hGR:=hgr.trans hSa.gr
       have hwz:w.heap.size≤w1.heap.size:=hGR.size
       have HD:Hid (gy D left l i k↔(k≠i∧(if left then g1 else g2)=true∧((if left then g2 else g1)=false∨k<i))):=by
        show gy D left l i k↔_
        unfold gy GeS
        simp only[List.getD,List.getElem?_eq_getElem hkt,List.getElem?_eq_getElem hlt,Option.getD_some]
        cases left <;> simp[hg1,hg2,← Bool.not_eq_true]
       have HF1:=Hd_ hF1
       have HI:=Hd_ hinv
       have HS:=Hd_ hSa
       have HG:=Hd_ hGR
       clear hF1 hinv hSa hGR hgr hS1 hS2 hS3 hI hO1 HF hg1 hg2 ck ci hSb hSc hlk hli
       cases left <;> cases g1 <;> cases g2 <;> rcases Nat.lt_trichotomy k i with hki | rfl | hki
       all_goals (go_wp2_with (go_at_call 180;refine(nW _ _ _ _ hIz hzl).mono ?_;rintro e w2 ⟨v1,rfl,hI1,hx1,hn1⟩))
       all_goals go_roundw
       any_goals (case measure=>simp[intOf];omega)
       all_goals first
        | exact⟨k+1,z,by omega,by go_num,hIz,HI.out.no (fun h=>by have h:=HD.out.1 h;first | (simp at h;done) | (simp at h;omega)),HS.out.ord,HG.out,HF1.out⟩
        | exact⟨k+1,iW z i,by omega,by go_num,hI1,HI.out.yes hlt (HD.out.2 (by first | (simp;done) | (simp;omega))),HS.out.ord.grown (eZ hx1),HG.out.trans ((eZ hx1).but _),nR HF1.out hwz hx1.size hn1⟩
        | trace_state
     · have hkl:k=l.length:=by omega
       subst hkl
       go_wp2
       go_roundw
       case rel=>exact⟨i+1,z,by omega,by go_num,hI,hinv.next,hO1,hgr,HF⟩
       case measure=>simp[intOf];omega
  · have hil:i=l.length:=by omega
    subst hil
    go_wp2
    go_ret
    exact⟨_,z,rfl,hI,hinv,hO1,hgr,HF.out⟩
end
end Go.Proofs.YteknjeohbcgpdaaGreatDoor