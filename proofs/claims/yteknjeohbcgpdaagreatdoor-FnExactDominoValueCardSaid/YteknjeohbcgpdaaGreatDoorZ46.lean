/-
  Memory of the program's order: the list, the ranks, the nodes, the group. (4 texts.)
-/
import Derived.Test.YteknjeohbcgpdaaGreatDoorZ12
import Derived.Test.YteknjeohbcgpdaaGreatDoorZ37
import Derived.Test.YteknjeohbcgpdaaGreatDoorZ45
set_option maxRecDepth 100000
namespace Go.Proofs.YteknjeohbcgpdaaGreatDoor
open Tryz
section
open Go.RowKit
open Cgt (Dag Nd vl)
open Go.Sort (grow PermIn SortedIn SWO)
theorem sw {α:Type} [Inhabited α] (enc:α→Value) {w:World} {base e g n cap size:Nat} {xs:List Value} (h:w.ownsRow base e size (.slice (some ⟨g,0,none⟩) n cap) n xs) (d:Array α) (hd:d.size=xs.length) (m:Nat) (os:Array Obj) :
 (grow (Go.Sort.putRow enc (Go.Sort.ahead w m) g 0 d) os).ownsRow base e size (.slice (some ⟨g,0,none⟩) n cap) n (d.toList.map enc)∧bg (fun b=>b=g) w (grow (Go.Sort.putRow enc (Go.Sort.ahead w m) g 0 d) os):=by
 obtain⟨hlen,h⟩:=h
 have hgl:g<w.heap.size:=by
  rcases h with ⟨h,_⟩ | ⟨g',cap',cur,h1,h2,h3,_⟩
  · simp at h
  · simp only[Value.slice.injEq,Option.some.injEq,Addr.mk.injEq,and_true,true_and] at h1
    obtain⟨rfl,rfl⟩:=h1;exact ah h3
 have hsz:(Go.Sort.putRow enc (Go.Sort.ahead w m) g 0 d).heap.size=w.heap.size:=by rw[Go.Sort.size_putRow];rfl
 refine⟨⟨by rw[List.length_map,Array.length_toList,hd,hlen],?_⟩,rfl,rfl,rfl,by simp[Go.Sort.grow,hsz],fun k hk hn=>?_⟩
 · rcases h with ⟨h,_⟩ | ⟨g',cap',cur,h1,h2,h3,h4,h5,h6,h7⟩
   · simp at h
   · simp only[Value.slice.injEq,Option.some.injEq,Addr.mk.injEq,and_true,true_and] at h1
     obtain⟨rfl,rfl⟩:=h1
     refine .inr ⟨g,cap,Go.Sort.putCells enc 0 d cur,rfl,h2,?_,h4,h5,by simp[Go.Sort.putCells,h6],?_⟩
     · rw[qC _ _ (by rw[hsz];exact hgl)]
       exact tO _ _ _ h3
     · apply List.ext_getElem?
       intro i
       rw[List.getElem?_take]
       by_cases c:i<n*size
       · rw[if_pos c,Array.getElem?_toList]
         have hc:i<cur.size:=by rw[h6];exact Nat.lt_of_lt_of_le c (Nat.mul_le_mul_right size h4)
         have hi:i<d.size:=by rw[hd,hlen];exact c
         rw[List.getElem?_map,Array.getElem?_toList,Array.getElem?_eq_getElem hi]
         simp only[Go.Sort.putCells,Array.getElem?_mapIdx,Array.getElem?_eq_getElem hc,Option.map_some]
         rw[if_pos (by simp;omega)]
         simp[hi]
       · rw[if_neg c,List.getElem?_eq_none (by rw[List.length_map,Array.length_toList,hd,hlen];omega)]
 · rw[qC _ _ (by rw[hsz];exact hk)]
   exact rA (Go.Sort.ahead w m) g k _ hn
theorem yo {α:Type} [Inhabited α] (enc:α→Value) {w:World} {base e g n cap size:Nat} {xs:List Value} (h:w.ownsRow base e size (.slice (some ⟨g,0,none⟩) n cap) n xs) (d:Array α) (hd:d.toList.map enc=xs):Go.Sort.Holds enc w g 0 d:=by
 intro j hj
 have hl:=h.1
 rw[Nat.zero_add]
 refine⟨?_,h.frozenAt j⟩
 have hxl:xs.length=d.size:=by rw[← hd];simp
 rw[h.cellAt j (by omega),← hd,List.getElem?_map,Array.getElem?_toList,Array.getElem?_eq_getElem hj]
 simp[hj]
theorem GX {α:Type} [Inhabited α] (enc:α→List Value) (k:Nat) (hk:∀ x,(enc x).length=k) (hk0:0<k) (d:Array α):(Go.Sort.flatK enc k d).toList=d.toList.flatMap enc:=by
 have hlen:∀ l:List α,(l.flatMap enc).length=l.length*k:=by
  intro l
  induction l with
  | nil=>simp
  | cons x l ih=>rw[List.flatMap_cons,List.length_append,ih,hk,List.length_cons,Nat.add_mul,Nat.one_mul];omega
 have hget:∀ (l:List α) (t:Nat) (h:t<l.length*k),(l.flatMap enc)[t]?=(enc (l[t / k]'(Nat.div_lt_of_lt_mul (by rw[Nat.mul_comm];exact h))))[t % k]?:=by
  intro l
  induction l with
  | nil=>intro t h;simp at h
  | cons x l ih =>
    intro t h
    rw[List.flatMap_cons]
    by_cases c:t<k
    · rw[List.getElem?_append_left (by rw[hk];exact c)]
      have e1:t / k=0:=Nat.div_eq_of_lt c
      have e2:t % k=t:=Nat.mod_eq_of_lt c
      simp only[e1,e2,List.getElem_cons_zero]
    · have hge:k≤t:=by omega
      obtain⟨u,rfl⟩:∃ u,t=u+k:=⟨t-k,by omega⟩
      rw[List.getElem?_append_right (by rw[hk];omega),hk,Nat.add_sub_cancel]
      have hu:u<l.length*k:=by rw[List.length_cons,Nat.add_mul,Nat.one_mul] at h;omega
      rw[ih u hu]
      have e1:(u+k) / k=u / k+1:=Nat.add_div_right u hk0
      have e2:(u+k) % k=u % k:=Nat.add_mod_right u k
      simp only[e1,e2,List.getElem_cons_succ]
 apply List.ext_getElem?
 intro t
 by_cases c:t<d.size*k
 · have hd:t / k<d.size:=Nat.div_lt_of_lt_mul (by rw[Nat.mul_comm];exact c)
   have hm:t % k<(enc d[t / k]).length:=by rw[hk];exact Nat.mod_lt _ hk0
   rw[hget d.toList t (by simpa using c),Array.getElem?_toList]
   simp only[Go.Sort.flatK,Array.getElem?_map]
   rw[Array.getElem?_eq_getElem (by simpa using c)]
   simp[hd,hm]
 · rw[List.getElem?_eq_none (by simp[hlen];omega),List.getElem?_eq_none (by rw[hlen];simp;omega)]
theorem BF {n:Nat} [Inhabited (Fin n)] {lt:Fin n→Fin n→Bool} {d':Array (Fin n)} (hp:PermIn 0 n (Array.ofFn (n:=n) id) d') (hs:SortedIn lt 0 n d'):d'.toList.Perm (List.finRange n)∧d'.toList.Pairwise (fun x y=>lt y x=false):=by
 obtain⟨h1,_,h3⟩:=hp
 have hz:(Array.ofFn (n:=n) (id:Fin n→Fin n)).size=n:=by simp
 rw[hz] at h1
 constructor
 · have e1:d'.extract 0 n=d':=Array.extract_eq_self_of_le (by omega)
   have e2:(Array.ofFn (n:=n) (id:Fin n→Fin n)).extract 0 n=Array.ofFn (n:=n) (id:Fin n→Fin n):=Array.extract_eq_self_of_le (by omega)
   rw[e1,e2] at h3
   have e3:(Array.ofFn (n:=n) (id:Fin n→Fin n)).toList=List.finRange n:=by
    rw[Array.toList_ofFn];rfl
   rw[e3] at h3
   exact h3
 · rw[List.pairwise_iff_getElem]
   intro i j hi hj hij
   simp only[Array.length_toList] at hi hj
   have:=hs i j (Nat.zero_le _) hij (by omega)
   simpa [hi,hj] using this
theorem Kr {n:Nat} (f:Fin n→Nat):SWO (fun x y:Fin n=>decide (Lib.compareInt (f x:Int) (f y:Int)<0)):=by
 have e:∀ a b:Nat,decide (Lib.compareInt (a:Int) (b:Int)<0)=decide (a<b):=fun a b=>by
  unfold Lib.compareInt
  by_cases h1:a<b
  · rw[if_pos (by omega)];simp[h1]
  · rw[if_neg (by omega)]
    split <;> simp[h1]
 refine⟨fun x=>by simp[e],fun x y z h k=>?_,fun x y z h k=>?_⟩
 · simp only[e,decide_eq_true_eq] at *;omega
 · simp only[e,decide_eq_false_iff_not] at *;omega
theorem O8 {n:Nat} (f:Fin n→Nd):SWO (fun x y:Fin n=>decide (Cgt.nc (f x) (f y)<0)):=by
 refine⟨fun x=>by simp[Cgt.zt],fun x y z h k=>?_,fun x y z h k=>?_⟩
 · simp only[decide_eq_true_eq] at *;exact Cgt.pE h k
 · simp only[decide_eq_false_iff_not] at *
   intro c
   by_cases e:Cgt.nc (f x) (f y)=0
   · rw[Cgt.ry e] at c;exact k c
   · have h1:Cgt.nc (f y) (f x)<0:=by rw[Cgt.rz];omega
     exact k (Cgt.pE h1 c)
end
section
open Go.RowKit
open Cgt (Dag Nd vl)
open Go.Sort (grow PermIn SortedIn SWO)
theorem MF (args:Array Value) (w:World):(callFunc 164 args).run prog w=.ok (.enter 164 args) w:=by kernel_rfl
theorem ME (args:Array Value) (w:World):(callFunc 167 args).run prog w=.ok (.enter 167 args) w:=by kernel_rfl
theorem BH (pp h:Nat) (s:PSt) (pb base g cap:Nat) (Ls:List Nat) (w:World) (hP:aQ w pp h s) (hown:w.ownsRow base 3 1 (.slice (some ⟨g,0,none⟩) Ls.length cap) Ls.length ((toZ Ls).map (Value.int .i64))) (hL:∀ x,x∈Ls→x<s.D.length) (hl0:0<Ls.length) (hll:Ls.length≤1000000)
 (dI:w.cell? ⟨pb,0,none⟩=some (.pointer (some ⟨pp,0,none⟩))) (hgp:g≠pb) (hgo:¬ fK pp h s g) (hgs:¬ s.S g) :
 Calls prog 163 #[.slice (some ⟨g,0,none⟩) Ls.length cap,.func (.func 164) #[] #[.pointer (some ⟨pb,0,none⟩)]] w fun e w' =>
  e=.returned (.tuple #[])∧∃ L0:List Nat,L0.Perm Ls∧L0.Pairwise (fun a b=>Cgt.born (vl s.D a)≤Cgt.born (vl s.D b))∧w'.ownsRow base 3 1 (.slice (some ⟨g,0,none⟩) Ls.length cap) Ls.length ((toZ L0).map (Value.int .i64))∧bg (fun b=>b=g) w w':=by
 let I:Inhabited (Fin Ls.length):=⟨⟨0,hl0⟩⟩
 let enc:Fin Ls.length→Value:=fun i=>.int .i64 (Ls[i]:Int)
 let bf:Fin Ls.length→Nat:=fun i=>Cgt.born (vl s.D Ls[i])
 let cf:Fin Ls.length→Fin Ls.length→Int:=fun x y=>Lib.compareInt (bf x:Int) (bf y:Int)
 have hd:(Array.ofFn (n:=Ls.length) (id:Fin Ls.length→Fin Ls.length)).toList.map enc=(toZ Ls).map (Value.int .i64):=by
  rw[Array.toList_ofFn]
  apply List.ext_getElem
  · simp[toZ]
  · intro i h1 h2;simp[enc,toZ]
 have hsz:(Array.ofFn (n:=Ls.length) (id:Fin Ls.length→Fin Ls.length)).size=Ls.length:=by simp
 have hsl:=Tryz.rW enc (fun x=>rfl) cf (Kr bf) 164 #[.pointer (some ⟨pb,0,none⟩)] g 0 cap (Array.ofFn (n:=Ls.length) id) w MF
  (fun m os dk hs x y=>by
   obtain⟨-,hk⟩:=sw enc hown dk (by rw[hs,hsz];simp[toZ]) m os
   have hPk:=hP.keep hk (fun b hb e=>hgo (e ▸ hb)) (fun b hb e=>hgs (e ▸ hb))
   obtain⟨gb,cb,c2,hn1,hn2,cx⟩:=hPk.rO (hL _ (List.getElem_mem x.2))
   obtain⟨gb',cb',c2',-,-,cy⟩:=hPk.rO (hL _ (List.getElem_mem y.2))
   rw[c2] at c2'
   simp only[Option.some.injEq,Value.slice.injEq,Addr.mk.injEq,true_and,and_true] at c2'
   obtain⟨rfl,rfl⟩:=c2'
   have hb:=(World.cell?_of_block (hk.block pb (lt_of_cell dI) (fun e=>hgp e.symm))).trans dI
   refine(FX pb gb cb s.D.length Ls[x] Ls[y] (bf x) (bf y) pp _ hb c2 hP.small (hL _ (List.getElem_mem x.2)) (hL _ (List.getElem_mem y.2)) cx cy).mono ?_
   rintro e w' ⟨rfl,q,rfl⟩
   exact⟨rfl,q,#[],by rw[Go.Sort.grow_empty];rfl⟩)
  (yo enc hown _ hd) (hown.lt g rfl).2 (by rw[hsz];omega)
 rw[hsz] at hsl
 refine hsl.mono ?_
 rintro e w' ⟨rfl,d',m,os,hp,hs,hw⟩
 obtain⟨p1,p2⟩:=BF hp hs
 have hds:d'.size=Ls.length:=by have:=hp.1;simpa using this
 obtain⟨ho,hk⟩:=sw enc hown d' (by rw[hds];simp[toZ]) m os
 refine⟨rfl,d'.toList.map (fun i=>Ls[i]),?_,?_,?_,?_⟩
 · have:=p1.map (fun i:Fin Ls.length=>Ls[i])
   refine this.trans (List.Perm.of_eq ?_)
   apply List.ext_getElem
   · simp
   · intro i h1 h2;simp
 · rw[List.pairwise_map]
   refine p2.imp fun {a b} hab=>?_
   simp only[Go.Proofs.ltOf,decide_eq_false_iff_not,cf,bf] at hab
   unfold Lib.compareInt at hab
   by_cases c:Cgt.born (vl s.D Ls[b])<Cgt.born (vl s.D Ls[a])
   · rw[if_pos (by omega)] at hab;omega
   · omega
 · rw[hw]
   have e1:(toZ (d'.toList.map (fun i=>Ls[i]))).map (Value.int .i64)=d'.toList.map enc:=by simp[toZ,enc]
   rw[e1];exact ho
 · rw[hw];exact hk
structure En where
 id:Nat
 lv:Value
 rv:Value
 l:List Nat
 r:List Nat
def En.cells (e:En):List Value:=[.int .i64 (e.id:Int),e.lv,e.rv]
def En.nd (e:En):Nd:=(e.l,e.r)
def En.blk (e:En) (b:Nat):Prop:=e.lv.ownBlock=some b∨e.rv.ownBlock=some b
def qd (base:Nat) (w:World) (e:En):Prop:=w.ownsRow base 3 1 e.lv e.l.length ((toZ e.l).map (Value.int .i64))∧w.ownsRow base 3 1 e.rv e.r.length ((toZ e.r).map (Value.int .i64))∧(∀ x,x∈e.l→x<900000000)∧(∀ x,x∈e.r→x<900000000)∧e.l.length≤1000000∧e.r.length≤1000000
theorem qd.keep {base:Nat} {w w':World} {e:En} {G:Nat→Prop} (h:qd base w e) (hk:bg G w w') (hG:∀ b,e.blk b→¬ G b):qd base w' e :=
 ⟨aI h.1 hk (fun b hb=>hG b (.inl hb)),aI h.2.1 hk (fun b hb=>hG b (.inr hb)),h.2.2⟩
theorem ug (base g cap:Nat) (G:List En) (w:World) (hown:w.ownsRow base 192 3 (.slice (some ⟨g,0,none⟩) G.length cap) G.length (G.flatMap En.cells)) (hG:∀ e,e∈G→qd base w e) (hg0:∀ e,e∈G→¬ e.blk g) (hl0:0<G.length) (hll:G.length≤1000000) :
 Calls prog 166 #[.slice (some ⟨g,0,none⟩) G.length cap,.func (.func 167) #[] #[]] w fun e w' =>
  e=.returned (.tuple #[])∧∃ G':List En,G'.Perm G∧G'.Pairwise (fun a b=>¬ Cgt.nc b.nd a.nd<0)∧w'.ownsRow base 192 3 (.slice (some ⟨g,0,none⟩) G.length cap) G.length (G'.flatMap En.cells)∧bg (fun b=>b=g) w w':=by
 let I:Inhabited (Fin G.length):=⟨⟨0,hl0⟩⟩
 let enc:Fin G.length→List Value:=fun i=>G[i].cells
 let cf:Fin G.length→Fin G.length→Int:=fun x y=>Cgt.nc G[x].nd G[y].nd
 have hk3:∀ x,(enc x).length=3:=fun x=>rfl
 have hfl:∀ d:Array (Fin G.length),(Go.Sort.flatK enc 3 d).toList=(d.toList.map (fun i=>G[i])).flatMap En.cells:=fun d=>by
  rw[GX enc 3 hk3 (by omega),List.flatMap_map]
 have hG0:(Array.ofFn (n:=G.length) (id:Fin G.length→Fin G.length)).toList.map (fun i=>G[i])=G:=by
  rw[Array.toList_ofFn]
  apply List.ext_getElem
  · simp
  · intro i h1 h2;simp
 have hsz:(Array.ofFn (n:=G.length) (id:Fin G.length→Fin G.length)).size=G.length:=by simp
 have hcell:∀ x:Fin G.length,∀ v,v∈enc x→v.oneCell'=true:=fun x v hv=>by
  obtain⟨h1,h2,_⟩:=hG _ (List.getElem_mem x.2)
  obtain⟨a1,c1,e1,_,_⟩:=az h1
  obtain⟨a2,c2,e2,_,_⟩:=az h2
  have:v=.int .i64 (G[x].id:Int)∨v=G[x].lv∨v=G[x].rv:=by simpa [enc,En.cells] using hv
  rcases this with rfl | rfl | rfl
  · rfl
  · rw[show G[x].lv=_ from e1];rfl
  · rw[show G[x].rv=_ from e2];rfl
 have hxl:∀ l:List En,(l.flatMap En.cells).length=l.length*3:=by
  intro l
  induction l with
  | nil=>simp
  | cons x l ih=>rw[List.flatMap_cons,List.length_append,ih];simp[En.cells];omega
 have hsl:=Tryz.slices_SortFunc 3 (fun w=>by kernel_rfl) (fun w=>by kernel_rfl) enc hk3 hcell cf (O8 fun i=>G[i].nd) 167 #[] g 0 cap (Array.ofFn (n:=G.length) id) w ME
  (fun m os dk hs x y=>by
   obtain⟨-,hk⟩:=sw (α:=Value) id hown (Go.Sort.flatK enc 3 dk) (by rw[Go.Sort.size_flatK,hs,hsz,hxl]) m os
   obtain⟨x1,x2,x3,x4,x5,x6⟩:=(hG _ (List.getElem_mem x.2)).keep hk (fun b hb e=>hg0 _ (List.getElem_mem x.2) (e ▸ hb))
   obtain⟨y1,y2,y3,y4,y5,y6⟩:=(hG _ (List.getElem_mem y.2)).keep hk (fun b hb e=>hg0 _ (List.getElem_mem y.2) (e ▸ hb))
   have h:=FW G[x].id G[y].id G[x].lv G[x].rv G[y].lv G[y].rv G[x].l G[x].r G[y].l G[y].r _ (Ints.bG x1 (by rw[aj];exact Nat.le_trans x5 (by decide))) (Ints.bG x2 (by rw[aj];exact Nat.le_trans x6 (by decide))) (Ints.bG y1 (by rw[aj];exact Nat.le_trans y5 (by decide))) (Ints.bG y2 (by rw[aj];exact Nat.le_trans y6 (by decide))) x3 x4 y3 y4
   refine h.mono ?_
   rintro e w' ⟨rfl,q,os',rfl⟩
   exact⟨rfl,q,os',rfl⟩)
  (yo (α:=Value) id hown _ (by rw[List.map_id,hfl,hG0])) (hown.lt g rfl).2 (by rw[hsz];omega)
 rw[hsz] at hsl
 refine hsl.mono ?_
 rintro e w' ⟨rfl,d',m,os,hp,hs,hw⟩
 obtain⟨p1,p2⟩:=BF hp hs
 have hds:d'.size=G.length:=by have:=hp.1;simpa using this
 obtain⟨ho,hk⟩:=sw (α:=Value) id hown (Go.Sort.flatK enc 3 d') (by rw[Go.Sort.size_flatK,hds,hxl]) m os
 rw[List.map_id,hfl] at ho
 refine⟨rfl,d'.toList.map (fun i=>G[i]),?_,?_,?_,?_⟩
 · have:=p1.map (fun i:Fin G.length=>G[i])
   refine this.trans (List.Perm.of_eq ?_)
   apply List.ext_getElem
   · simp
   · intro i h1 h2;simp
 · rw[List.pairwise_map]
   exact p2.imp fun {a b} hab=>by simpa [Go.Proofs.ltOf,cf] using hab
 · rw[hw];exact ho
 · rw[hw];exact hk
end
section
open Cgt
structure iV (D:Dag) (root:Nat) (F:Dag) (idx at_:List Nat) (b:Nat) (rest:List Nat):Prop where
 form:fV D root F idx at_ b
 nd:(idx++rest).Nodup
 mem:∀ j,j∈idx++rest↔Cgt.Reach D root j
 sorted:rest.Pairwise (fun x y=>born (vl D x)≤born (vl D y))
 low:∀ j,j∈rest→b≤born (vl D j)
theorem fV.IW {D:Dag} {root:Nat} {F:Dag} {idx at_:List Nat} {b b':Nat} (h:fV D root F idx at_ b) (hb:∀ j,Cgt.Reach D root j→(born (vl D j)<b↔born (vl D j)<b')):fV D root F idx at_ b' :=
 ⟨h.len,h.atl,h.nd,fun j=>by rw[h.mem];exact⟨fun ⟨a,c⟩=>⟨a,(hb j a).1 c⟩,fun ⟨a,c⟩=>⟨a,(hb j a).2 c⟩⟩,h.place,h.node,h.sorted⟩
theorem iV.start {D:Dag} {root:Nat} {L:List Nat} (hn:L.Nodup) (hm:∀ j,j∈L↔Cgt.Reach D root j) (hs:L.Pairwise (fun x y=>born (vl D x)≤born (vl D y))):iV D root [] [] (List.replicate (root+1) 0) 0 L :=
 ⟨fV.start D root,by simpa using hn,by simpa using hm,hs,fun _ _=>Nat.zero_le _⟩
theorem iV.stage {D:Dag} {root:Nat} {F:Dag} {idx at_:List Nat} {b:Nat} {rest:List Nat} (h:iV D root F idx at_ b rest) (h0:0<rest.length):iV D root F idx at_ (born (vl D rest[0])) rest:=by
 have hge:∀ j,j∈rest→born (vl D rest[0])≤born (vl D j):=fun j hj=>by
  obtain⟨i,hi,rfl⟩:=List.mem_iff_getElem.1 hj
  by_cases e:i=0
  · subst e;exact Nat.le_refl _
  · exact List.pairwise_iff_getElem.1 h.sorted 0 i h0 hi (by omega)
 refine⟨h.form.IW fun j hj=>?_,h.nd,h.mem,h.sorted,hge⟩
 have h1:=h.low _ (List.getElem_mem h0)
 rcases List.mem_append.1 ((h.mem j).2 hj) with hm | hm
 · have:=((h.form.mem j).1 hm).2;omega
 · have:=hge j hm;have:=h.low j hm;omega
theorem iV.reach {D:Dag} {root:Nat} {F:Dag} {idx at_:List Nat} {b:Nat} {rest:List Nat} (h:iV D root F idx at_ b rest) {j:Nat} (hj:j∈rest):Cgt.Reach D root j:=(h.mem j).1 (List.mem_append.2 (.inr hj))
theorem iV.opts {D:Dag} (g:Cgt.Good D) {root:Nat} {F:Dag} {idx at_:List Nat} {b:Nat} {rest:List Nat} (h:iV D root F idx at_ b rest) {j:Nat} (hj:j∈rest) (hb:born (vl D j)=b) (side:Bool) :
 (∀ x,x∈opt D side j→x∈idx)∧((opt D side j).map fun x=>at_.getD x 0).Nodup∧(opt D side j).Nodup:=by
 have hr:=h.reach hj
 have hp:=fun x hx=>h.form.pos g.wf (side:=side) (x:=x) hr (Nat.le_of_eq hb) hx
 have hn:(opt D side j).Nodup:=by
  unfold opt
  cases e:D[j]? with
  | none=>exact List.nodup_nil
  | some nd =>
    have ha:=g.asc _ (List.mem_of_getElem? e)
    cases side
    · exact iF ha.2
    · exact iF ha.1
 refine⟨fun x hx=>?_,?_,hn⟩
 · obtain⟨p,hp,e,_⟩:=hp x hx
   rw[← e];exact List.getElem_mem hp
 · rw[List.Nodup,List.pairwise_map]
   refine List.Pairwise.imp_of_mem (fun {a c} ha hc hne e=>?_) hn
   obtain⟨p,hp1,e1,e2⟩:=hp a ha
   obtain⟨q,hq1,e3,e4⟩:=hp c hc
   rw[e2,e4] at e
   subst e
   exact hne (by rw[← e1,← e3])
theorem J3 {D:Dag} {root:Nat} {F:Dag} {idx at_:List Nat} {b:Nat} (h:fV D root F idx at_ b) {x:Nat} (hx:x∈idx):at_.getD x 0<idx.length:=by
 obtain⟨p,hp,rfl⟩:=List.mem_iff_getElem.1 hx
 have:=h.place p hp
 rw[List.getD_eq_getElem?_getD,this];exact hp
def kr (at_:List Nat) (from_:List Nat) (n root:Nat):List Nat:=(List.range (root+1)).map fun y=>if y∈from_ then n+from_.idxOf y else at_.getD y 0
theorem Ht (at_ from_:List Nat) (n root:Nat):(kr at_ from_ n root).length=root+1:=by simp[kr]
theorem u6 {at_ from_:List Nat} {n root:Nat} (hn:from_.Nodup) (hl:∀ y,y∈from_→y<root+1) (j:Nat) (hj:j<from_.length):(kr at_ from_ n root)[from_[j]]?=some (n+j):=by
 have h1:=hl _ (List.getElem_mem hj)
 unfold kr
 rw[List.getElem?_map,List.getElem?_range h1]
 simp only[Option.map_some,List.getElem_mem hj,if_true]
 rw[hn.idxOf_getElem j hj]
theorem sZ {at_ from_:List Nat} {n root:Nat} (ha:at_.length=root+1) (y:Nat) (hy:y ∉ from_):(kr at_ from_ n root)[y]?=at_[y]?:=by
 unfold kr
 rw[List.getElem?_map]
 by_cases c:y<root+1
 · rw[List.getElem?_range c]
   simp only[Option.map_some,hy,if_false]
   rw[List.getElem?_eq_getElem (by omega)]
   simp[List.getD,show y<at_.length by omega]
 · rw[List.getElem?_eq_none (by simp;omega),List.getElem?_eq_none (by omega)];rfl
theorem iV.next {D:Dag} (g:Cgt.Good D) {root:Nat} (hroot:root<D.length) {F:Dag} {idx at_:List Nat} {b:Nat} {rest from_:List Nat} {q:Nat} (h:iV D root F idx at_ b rest) (hq:q≤rest.length) (hb:∀ j (hj:j<rest.length),j<q→born (vl D rest[j])=b) (hq':∀ hl:q<rest.length,born (vl D rest[q])≠b)
 (hp:from_.Perm (rest.take q)) (hs:from_.Pairwise (fun x y=>¬ nc (Xn D at_ y) (Xn D at_ x)<0)):iV D root (F++from_.map (Xn D at_)) (idx++from_) (kr at_ from_ F.length root) (b+1) (rest.drop q)∧from_.Nodup∧(∀ y,y∈from_→y<root+1)∧(∀ y,y∈from_→y ∉ idx):=by
 have hrd:rest=rest.take q++rest.drop q:=(List.take_append_drop q rest).symm
 have hnr:rest.Nodup:=(List.nodup_append.1 h.nd).2.1
 have Tq:∀ a,a∈idx→∀ c,c∈rest→a≠c:=(List.nodup_append.1 h.nd).2.2
 have hfr:∀ y,y∈from_→y∈rest:=fun y hy=>List.mem_of_mem_take (hp.mem_iff.1 hy)
 have hfb:∀ y,y∈from_→born (vl D y)=b:=fun y hy=>by
  obtain⟨j,hj,rfl⟩:=List.mem_iff_getElem.1 (hp.mem_iff.1 hy)
  rw[List.length_take] at hj
  rw[List.getElem_take]
  exact hb j (by omega) (by omega)
 have hdb:∀ y,y∈rest.drop q→b<born (vl D y):=fun y hy=>by
  obtain⟨j,hj,rfl⟩:=List.mem_iff_getElem.1 hy
  rw[List.length_drop] at hj
  rw[List.getElem_drop]
  have hql:q<rest.length:=by omega
  have h1:=h.low _ (List.getElem_mem hql)
  have h2:=hq' hql
  by_cases e:j=0
  · subst e;simp only[Nat.add_zero];omega
  · have:=List.pairwise_iff_getElem.1 h.sorted q (q+j) hql (by omega) (by omega);omega
 have hfn:from_.Nodup:=hp.symm.nodup (hnr.sublist (List.take_sublist _ _))
 have hrt:∀ y,y∈from_→y<root+1:=fun y hy=>by have:=jd g.wf (h.reach (hfr y hy));omega
 have hlD:∀ y,y∈from_→y<D.length:=fun y hy=>by have:=hrt y hy;omega
 have hL:kS D root at_ b from_ (root+1):=by
  refine⟨fun j=>⟨fun hj=>⟨hrt j hj,h.reach (hfr j hj),hfb j hj⟩,fun ⟨_,hr,hjb⟩=>?_⟩,?_⟩
  · rcases List.mem_append.1 ((h.mem j).2 hr) with hm | hm
    · have:=((h.form.mem j).1 hm).2;omega
    · rw[hrd] at hm
      rcases List.mem_append.1 hm with hm | hm
      · exact hp.mem_iff.2 hm
      · have:=hdb j hm;omega
  · refine List.Pairwise.imp_of_mem (fun {x y} hx hy hxy=>?_) (hs.and hfn)
    obtain⟨h1,h2⟩:=hxy
    have h3:¬ nc (Xn D at_ x) (Xn D at_ y)=0:=fun e=>h2 (h.form.inj g (h.reach (hfr x hx)) (Nat.le_of_eq (hfb x hx)) (h.reach (hfr y hy)) (Nat.le_of_eq (hfb y hy)) (hlD x hx) (hlD y hy) (ry e))
    have h4:=rz (Xn D at_ x) (Xn D at_ y)
    omega
 refine⟨⟨h.form.next g hL (Ht _ _ _ _) (fun j hj=>u6 hfn hrt j hj) (fun y hy=>sZ h.form.atl y hy),?_,fun j=>?_,h.sorted.sublist (List.drop_sublist _ _),fun j hj=>hdb j hj⟩,hfn,hrt,fun y hy hi=>Tq y hi y (hfr y hy) rfl⟩
 · have hpp:((idx++from_)++rest.drop q).Perm (idx++rest):=by
    rw[List.append_assoc]
    refine List.Perm.append_left idx ?_
    conv=>rhs;rw[hrd]
    exact hp.append_right _
   exact hpp.symm.nodup h.nd
 · rw[← h.mem j]
   have hpp:((idx++from_)++rest.drop q).Perm (idx++rest):=by
    rw[List.append_assoc]
    refine List.Perm.append_left idx ?_
    conv=>rhs;rw[hrd]
    exact hp.append_right _
   exact hpp.mem_iff
theorem iV.last {D:Dag} (g:Cgt.Good D) {root:Nat} (hr:root<D.length) {F:Dag} {idx at_:List Nat} {b:Nat} (h:iV D root F idx at_ b []):dH F∧Same (bE F) (vl D root):=by
 refine fV.last g hr (h.form.IW fun j hj=>?_)
 have h1:=(h.mem j).2 hj
 rw[List.append_nil] at h1
 have h2:=((h.form.mem j).1 h1).2
 rcases yj g.wf hj with rfl | h3
 · omega
 · omega
end
section
open Go.RowKit
open Cgt (Dag Nd vl)
def En.two (e:En):List Value:=[e.lv,e.rv]
theorem Rc (l:List Nat):(toZ l).length=l.length:=aj l
structure OM (w wr:World) (lb lc rb:Nat) (nv gv:Value) (Lc:List Nat) (mr:Nat) (fm:Value→Option Value) (nodes group V:List En):Prop where
 list:wr.ownsRow w.heap.size 3 1 (.slice (some ⟨lb,0,none⟩) Lc.length lc) Lc.length ((toZ Lc).map (Value.int .i64))
 rank:bW prog 3 wr rb mr fm
 rb0:w.heap.size≤rb
 node:wr.ownsRow w.heap.size 89 2 nv nodes.length (nodes.flatMap En.two)
 grp:wr.ownsRow w.heap.size 192 3 gv group.length (group.flatMap En.cells)
 jI:∀ e,e∈V→qd w.heap.size wr e
 apart:V.Pairwise (fun a b=>∀ x,a.blk x→¬ b.blk x)
 self:∀ e,e∈V→∀ b,e.lv.ownBlock=some b→e.rv.ownBlock≠some b
 far:∀ e,e∈V→∀ x,e.blk x→x≠lb∧x≠rb∧nv.ownBlock≠some x∧gv.ownBlock≠some x
 a1:lb≠rb
 a2:nv.ownBlock≠some lb∧nv.ownBlock≠some rb
 a3:gv.ownBlock≠some lb∧gv.ownBlock≠some rb
 a4:∀ b,nv.ownBlock=some b→gv.ownBlock≠some b
 ext:Ext w wr
section
variable {w wr w2 w3 wa:World} {lb lc rb mr:Nat} {nv gv gv' nv':Value} {Lc:List Nat} {fm:Value→Option Value} {nodes group V:List En}
theorem qd.ext {base:Nat} {e:En} (h:qd base wr e) (hx:Ext wr w2):qd base w2 e:=h.keep (bZ (F:=fun _=>False) hx) fun _ _=>id
theorem qd.lt {base:Nat} {e:En} (h:qd base wr e) {b:Nat} (hb:e.blk b):base≤b∧b<wr.heap.size:=by
 rcases hb with hb | hb
 · exact h.1.lt b hb
 · exact h.2.1.lt b hb
theorem OM.ext' (m:OM w wr lb lc rb nv gv Lc mr fm nodes group V) (hx:Ext wr w2):OM w w2 lb lc rb nv gv Lc mr fm nodes group V :=
 ⟨aJ m.list hx,m.rank.keep (hx.block _ m.rank.lt),m.rb0,aJ m.node hx,aJ m.grp hx,fun e he=>(m.jI e he).ext hx,m.apart,m.self,m.far,m.a1,m.a2,m.a3,m.a4,aa m.ext hx⟩
theorem OM.xq (m:OM w wr lb lc rb nv gv Lc mr fm nodes group V):w.heap.size≤lb∧lb<wr.heap.size:=m.list.lt lb rfl
theorem OM.TP (m:OM w wr lb lc rb nv gv Lc mr fm nodes group V):OM w (wr.alloc (.cells #[] 192)) lb lc rb nv (.slice (some ⟨wr.heap.size,0,none⟩) 0 0) Lc mr fm nodes [] V:=by
 have hx:Ext wr (wr.alloc (.cells #[] 192)):=aM (Below.refl _ _) _
 have m1:=m.ext' hx
 have hz:=m.ext.size
 have hl:=m.xq
 have hr:=m.rank.lt
 have he:∀ e,e∈V→∀ x,e.blk x→x<wr.heap.size:=fun e he x hx=>((m.jI e he).lt hx).2
 refine⟨m1.list,m1.rank,m1.rb0,m1.node,?_,m1.jI,m1.apart,m1.self,fun e h x hx=>⟨(m.far e h x hx).1,(m.far e h x hx).2.1,(m.far e h x hx).2.2.1,?_⟩,m.a1,m.a2,⟨?_,?_⟩,fun b hb=>?_,m1.ext⟩
 · refine⟨by simp,.inr ⟨wr.heap.size,0,#[],rfl,hz,heap_alloc_new wr _,Nat.le_refl _,Nat.zero_le _,by simp,by simp⟩⟩
 · have:=he e h x hx;simp[Value.ownBlock];omega
 · simp[Value.ownBlock];omega
 · simp[Value.ownBlock];omega
 · have:=(m.node.lt b hb).2;simp[Value.ownBlock];omega
theorem OM.QW (m:OM w wr lb lc rb nv gv Lc mr fm nodes group V) (hx:Ext wr w2) {e:En} (he:qd wr.heap.size w2 e) (hs:∀ b,e.lv.ownBlock=some b→e.rv.ownBlock≠some b):OM w w2 lb lc rb nv gv Lc mr fm nodes group (V++[e]):=by
 have m1:=m.ext' hx
 have hz:=m.ext.size
 have hl:=m.xq
 have hr:=m.rank.lt
 have hlt:∀ a,a∈V→∀ x,a.blk x→x<wr.heap.size:=fun a ha x hx=>((m.jI a ha).lt hx).2
 refine⟨m1.list,m1.rank,m1.rb0,m1.node,m1.grp,fun a ha=>?_,?_,fun a ha=>?_,fun a ha x hx'=>?_,m.a1,m.a2,m.a3,m.a4,m1.ext⟩
 · rcases List.mem_append.1 ha with ha | ha
   · exact m1.jI a ha
   · simp at ha;subst ha;exact⟨fQ he.1 hz,fQ he.2.1 hz,he.2.2⟩
 · rw[List.pairwise_append]
   refine⟨m.apart,by simp,fun a ha b hb x hx1 hx2=>?_⟩
   simp at hb;subst hb
   have:=hlt a ha x hx1
   have:=(he.lt hx2).1
   omega
 · rcases List.mem_append.1 ha with ha | ha
   · exact m.self a ha
   · simp at ha;subst ha;exact hs
 · rcases List.mem_append.1 ha with ha | ha
   · exact m.far a ha x hx'
   · simp at ha;subst ha
     have h1:=(he.lt hx').1
     refine⟨by omega,by omega,fun e=>?_,fun e=>?_⟩
     · have:=(m.node.lt x e).2;omega
     · have:=(m.grp.lt x e).2;omega
theorem OM.TQ (m:OM w wr lb lc rb nv gv Lc mr fm nodes group V) (hx:Ext wr wa) (hg:wa.grownBy w2 gv.ownBlock) {e:En} {n:Nat} {ys:List Value} (ho:w2.ownsRow w.heap.size 192 3 gv' n ys) (hn:n=(group++[e]).length) (hy:ys=(group++[e]).flatMap En.cells) (hl:eU wa gv gv'):OM w w2 lb lc rb nv gv' Lc mr fm nodes (group++[e]) V:=by
 have m1:=m.ext' hx
 have hk:=fE hg
 have hz:=hx.size
 have hL:∀ b,gv'.ownBlock=some b→gv.ownBlock=some b∨wr.heap.size≤b:=fun b hb=>by
  rcases hl with e | ⟨g,e,k⟩
  · exact .inl (e ▸ hb)
  · rw[e] at hb;injection hb with hb;exact .inr (by omega)
 have hlb:=m.xq
 have hr:=m.rank.lt
 subst hn hy
 refine⟨aI m1.list hk (fun b hb e=>m.a3.1 (by simp only[Value.ownBlock,Option.some.injEq] at hb;rw[hb];exact e)),m1.rank.keep (hk.block _ m1.rank.lt (fun e=>m.a3.2 e)),m.rb0,aI m1.node hk (fun b hb e=>m.a4 b hb e),ho,fun a ha=>(m1.jI a ha).keep hk (fun b hb e=>(m.far a ha b hb).2.2.2 e),m.apart,m.self,fun a ha x hx'=>⟨(m.far a ha x hx').1,(m.far a ha x hx').2.1,(m.far a ha x hx').2.2.1,fun e=>?_⟩,m.a1,m.a2,⟨fun e=>?_,fun e=>?_⟩,fun b hb e=>?_,aV m1.ext hg (fun b hb=>(m1.grp.lt b hb).1)⟩
 · rcases hL x e with h | h
   · exact(m.far a ha x hx').2.2.2 h
   · have:=((m.jI a ha).lt hx').2;omega
 · rcases hL lb e with h | h
   · exact m.a3.1 h
   · omega
 · rcases hL rb e with h | h
   · exact m.a3.2 h
   · omega
 · rcases hL b e with h | h
   · exact m.a4 b hb h
   · have:=(m.node.lt b hb).2;omega
theorem OM.NR {g c:Nat} {G':List En} (m:OM w wr lb lc rb nv (.slice (some ⟨g,0,none⟩) group.length c) Lc mr fm nodes group (nodes++group)) (hp:G'.Perm group) (ho:w2.ownsRow w.heap.size 192 3 (.slice (some ⟨g,0,none⟩) group.length c) group.length (G'.flatMap En.cells)) (hk:bg (fun b=>b=g) wr w2):OM w w2 lb lc rb nv (.slice (some ⟨g,0,none⟩) G'.length c) Lc mr fm nodes G' (nodes++G'):=by
 have hl:=hp.length_eq
 have hpp:(nodes++G').Perm (nodes++group):=List.Perm.append_left _ hp
 have hgb:(Value.slice (some ⟨g,0,none⟩) group.length c).ownBlock=some g:=rfl
 have Tm:∀ e,e∈nodes++group→∀ x,e.blk x→¬ x=g:=fun e he x hx h=>(m.far e he x hx).2.2.2 (by rw[h];rfl)
 have hgw:=(m.grp.lt g rfl)
 refine⟨aI m.list hk (fun b hb e=>?_),m.rank.keep (hk.block _ m.rank.lt (fun e=>m.a3.2 (by rw[e];rfl))),m.rb0,aI m.node hk (fun b hb e=>m.a4 b hb (by rw[e];rfl)),by rw[hl];exact ho,fun e he=>(m.jI e (hpp.mem_iff.1 he)).keep hk (Tm e (hpp.mem_iff.1 he)),?_,fun e he=>m.self e (hpp.mem_iff.1 he),fun e he=>m.far e (hpp.mem_iff.1 he),m.a1,m.a2,m.a3,m.a4,?_⟩
 · simp only[Value.ownBlock,Option.some.injEq] at hb
   exact m.a3.1 (by show some g=some lb;rw[← e,hb])
 · exact(hpp.pairwise_iff (fun {a b} h x hx hy=>h x hy hx)).2 m.apart
 · exact jf m.ext hk (fun x hx=>by omega)
theorem OM.Pk (m:OM w wr lb lc rb nv gv Lc mr fm nodes group V) {k:Nat} (hk:k<Lc.length) (x:Nat):OM w (wr.setCell ⟨lb,k,none⟩ (.int .i64 (x:Int))) lb lc rb nv gv (Lc.set k x) mr fm nodes group V:=by
 have hs:bg (fun b=>b=lb) wr (wr.setCell ⟨lb,k,none⟩ (.int .i64 (x:Int))):=bJ (p:=⟨lb,k,none⟩)
 have hl:=m.xq
 refine⟨?_,m.rank.keep (hs.block _ m.rank.lt (fun e=>m.a1 e.symm)),m.rb0,aI m.node hs (fun b hb e=>m.a2.1 (e ▸ hb)),aI m.grp hs (fun b hb e=>m.a3.1 (e ▸ hb)),fun e he=>(m.jI e he).keep hs (fun b hb h=>(m.far e he b hb).1 h),m.apart,m.self,m.far,m.a1,m.a2,m.a3,m.a4,jf m.ext hs (fun b hb=>by omega)⟩
 have h:=EG (k:=k) m.list hk (x:Int)
 have e:(toZ Lc).set k (x:Int)=toZ (Lc.set k x):=by simp[toZ,List.map_set]
 rw[e] at h
 rw[List.length_set];exact h
theorem OM.O9 (m:OM w wr lb lc rb nv gv Lc mr fm nodes group V) {fm':Value→Option Value} {mr':Nat} (hM:bW prog 3 w2 rb mr' fm') (hg:wr.grownBy w2 (some rb)):OM w w2 lb lc rb nv gv Lc mr' fm' nodes group V:=by
 have hs:=dM hg
 have hr:=m.rb0
 refine⟨aI m.list hs (fun b hb e=>m.a1 (by simp only[Value.ownBlock,Option.some.injEq] at hb;rw[hb];exact e)),hM,m.rb0,aI m.node hs (fun b hb e=>m.a2.2 (e ▸ hb)),aI m.grp hs (fun b hb e=>m.a3.2 (e ▸ hb)),fun e he=>(m.jI e he).keep hs (fun b hb h=>(m.far e he b hb).2.1 h),m.apart,m.self,m.far,m.a1,m.a2,m.a3,m.a4,jf m.ext hs (fun b hb=>by omega)⟩
theorem OM.Ph (m:OM w wr lb lc rb nv gv Lc mr fm nodes group V) (hx:Ext wr wa) (hg:wa.grownBy w2 nv.ownBlock) {e:En} {n:Nat} {ys:List Value} (ho:w2.ownsRow w.heap.size 89 2 nv' n ys) (hn:n=(nodes++[e]).length) (hy:ys=(nodes++[e]).flatMap En.two) (hl:eU wa nv nv'):OM w w2 lb lc rb nv' gv Lc mr fm (nodes++[e]) group V:=by
 have m1:=m.ext' hx
 have hk:=fE hg
 have hz:=hx.size
 have hL:∀ b,nv'.ownBlock=some b→nv.ownBlock=some b∨wr.heap.size≤b:=fun b hb=>by
  rcases hl with e | ⟨g,e,k⟩
  · exact .inl (e ▸ hb)
  · rw[e] at hb;injection hb with hb;exact .inr (by omega)
 have hlb:=m.xq
 have hr:=m.rank.lt
 subst hn hy
 refine⟨aI m1.list hk (fun b hb e=>m.a2.1 (by simp only[Value.ownBlock,Option.some.injEq] at hb;rw[hb];exact e)),m1.rank.keep (hk.block _ m1.rank.lt (fun e=>m.a2.2 e)),m.rb0,ho,aI m1.grp hk (fun b hb e=>m.a4 b e hb),fun a ha=>(m1.jI a ha).keep hk (fun b hb e=>(m.far a ha b hb).2.2.1 e),m.apart,m.self,fun a ha x hx'=>⟨(m.far a ha x hx').1,(m.far a ha x hx').2.1,fun e=>?_,(m.far a ha x hx').2.2.2⟩,m.a1,⟨fun e=>?_,fun e=>?_⟩,m.a3,fun b hb e=>?_,aV m1.ext hg (fun b hb=>(m1.node.lt b hb).1)⟩
 · rcases hL x e with h | h
   · exact(m.far a ha x hx').2.2.1 h
   · have:=((m.jI a ha).lt hx').2;omega
 · rcases hL lb e with h | h
   · exact m.a2.1 h
   · omega
 · rcases hL rb e with h | h
   · exact m.a2.2 h
   · omega
 · rcases hL b hb with h | h
   · exact m.a4 b h e
   · have:=(m.grp.lt b e).2;omega
end
end
end Go.Proofs.YteknjeohbcgpdaaGreatDoor