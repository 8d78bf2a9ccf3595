/-
  Plain laws of the sorted lists of the reference: members, rising, births. (5 texts.)
-/
import Derived.Test.YteknjeohbcgpdaaGreatDoorZ2
import Derived.Test.YteknjeohbcgpdaaGreatDoorZ4
import Derived.Deep.RegionLaw
import Derived.BigRegion
import Derived.Handy
set_option maxRecDepth 100000
namespace Go.Proofs.YteknjeohbcgpdaaGreatDoor
open Tryz
section
open Go.RowKit
def eU (w:World) (v v':Value):Prop:=v'.ownBlock=v.ownBlock∨∃ g,v'.ownBlock=some g∧w.heap.size≤g
theorem O0 {P:Program} (w:World) (base:Nat) (t ty e:TypeId) (i:TypeInfo) (z:Value) (size bytes:Nat) (ht:P.underlying t=some (.slice e)) (hi:P.info? e=some i) (hz:i.zero=some z)
 (hsize:i.size=size) (hby:i.bytes=bytes) (hzs:z.cells.size=size) (hsz:0<size)
 (v:Value) (n:Nat) (xs:List Value) (hown:w.ownsRow base e size v n xs)
 (ao:Option Addr) (m c:Nat) (news:List Value) (hl:news.length=m*size) (hsrc:m=0∨∃ ad,ao=some ad∧∀ j u,news[j]?=some u→w.cell? (ad.add j)=some u) (h1:∀ u∈news,u.oneCell'=true)
 (h63:n+m≤maxLen) (hbytes:(n+m)*bytes≤140737488355328) (hbase:base≤w.heap.size) :
 ∃ v' w',(Builtin.append_ #[t,t] ty #[v,.slice ao m c]).run P w=.ok v' w'∧w'.ownsRow base e size v' (n+m) (xs++news)∧w.grownBy w' v.ownBlock∧eU w v v':=by
 subst hsize
 subst hby
 by_cases hm:m=0
 · subst hm
   have hn:news=[]:=List.eq_nil_of_length_eq_zero (by simpa using hl)
   subst hn
   refine⟨v,w,?_,by simpa using hown,⟨rfl,rfl,rfl,Nat.le_refl _,fun _ _ _=>rfl⟩,.inl rfl⟩
   rcases hown.2 with ⟨rfl,h0⟩ | ⟨g,cap,cur,rfl,hbg,hg,hnc,hcm,hcs,htake⟩
   · subst h0
     cases ao <;> simp[Builtin.append_,run_underlying ht,sizeOf,typeInfo,hi,Builtin.lenOf,Builtin.firstCells,loadCells,loadCellsFrom]
   · cases ao <;> simp[Builtin.append_,run_underlying ht,sizeOf,typeInfo,hi,Builtin.lenOf,Builtin.firstCells,loadCells,loadCellsFrom,hnc,storeCells]
 · obtain⟨ad,rfl,hnews⟩:=hsrc.resolve_left hm
   obtain⟨v',w',hr,h2,h3,h4⟩:=run_append_own (P:=P) w base t ty e i z i.size i.bytes ht hi hz rfl rfl hzs hsz v n xs hown ad m c news hl hnews h1 h63 hbytes hbase
   refine⟨v',w',hr,h2,h3,?_⟩
   have hml:maxLen=9223372036854775807:=by simp[maxLen]
   rcases hown.2 with ⟨rfl,h0⟩ | ⟨g,cap,cur,rfl,hbg,hg,hnc,hcm,hcs,htake⟩
   · subst h0
     have hr2:=run_append_nil (P:=P) (w:=w) t ty e i z ht hi hz ad m c news hl hnews (by omega) (by omega) (by simp only[Nat.zero_add] at hbytes;omega)
     rw[hr] at hr2
     injection hr2 with hv hw
     subst hv
     exact .inr ⟨_,rfl,Nat.le_refl _⟩
   · by_cases hroom:n+m≤cap
     · have hfit:n*i.size+news.length≤cur.size:=by rw[hl,hcs,← Nat.add_mul];exact Nat.mul_le_mul_right _ hroom
       have hr2:=run_append_room (P:=P) (w:=w) t ty e i ht hi g n cap cur hg ad m c news hl hnews h1 hroom hfit
       rw[hr] at hr2
       injection hr2 with hv hw
       subst hv
       exact .inl rfl
     · have hr2:=run_append_grow (P:=P) (w:=w) t ty e i z ht hi hz ⟨g,0,none⟩ n cap xs hown.1 (hown.cells (g:=g) rfl) ad m c news hl hnews (by omega) (by omega) (growslice_fits (by omega) hbytes)
       rw[hr] at hr2
       injection hr2 with hv hw
       subst hv
       exact .inr ⟨_,rfl,Nat.le_refl _⟩
theorem J5 {P:Program} {w:World} {o:Oper} {a:Act} {K:Act→World→Prop} {Q:Exit→Act→World→Prop} (s x:Operand) (t:TypeId)
 (ho:o.op=.call { callee:=.builtin .append,args:=#[s,x],argTypes:=#[t,t] })
 (base:Nat) (e:TypeId) (i:TypeInfo) (z:Value) (size bytes:Nat) (ht:P.underlying t=some (.slice e)) (hi:P.info? e=some i) (hz:i.zero=some z)
 (hsize:i.size=size) (hby:i.bytes=bytes) (hzs:z.cells.size=size) (hsz:0<size)
 (v:Value) (n:Nat) (xs:List Value) (hs:a.eval s=v) (hown:w.ownsRow base e size v n xs)
 (ao:Option Addr) (m c:Nat) (news:List Value) (hx:a.eval x=.slice ao m c) (hl:news.length=m*size) (hsrc:m=0∨∃ ad,ao=some ad∧∀ j u,news[j]?=some u→w.cell? (ad.add j)=some u) (h1:∀ u∈news,u.oneCell'=true)
 (h63:n+m≤maxLen) (hbytes:(n+m)*bytes≤140737488355328) (hbase:base≤w.heap.size)
 (h:∀ v' w',w'.ownsRow base e size v' (n+m) (xs++news)→w.grownBy w' v.ownBlock→eU w v v'→K (a.put o.dst v') w'):o.wp P a w K Q:=by
 obtain⟨v',w',hr,h2,h3,h4⟩:=O0 (P:=P) w base t o.type e i z size bytes ht hi hz hsize hby hzs hsz v n xs hown ao m c news hl hsrc h1 h63 hbytes hbase
 unfold Oper.wp execOp
 simp only[ho,resolve,invoke,builtin,Sem.run_bind,Sem.run_pure,Result.andThen_ok,List.map_toArray,List.map_cons,List.map_nil,hs,hx,hr]
 exact h v' w' h2 h3 h4
theorem aW {P:Program} {w:World} {ops:Array Oper} {rest:List Oper} {o:Oper} {a:Act} {Q:Exit→Act→World→Prop} (hgd:o.guard=none) (s x:Operand) (t:TypeId)
 (ho:o.op=.call { callee:=.builtin .append,args:=#[s,x],argTypes:=#[t,t] })
 (base:Nat) (e:TypeId) (i:TypeInfo) (z:Value) (size bytes:Nat) (ht:P.underlying t=some (.slice e)) (hi:P.info? e=some i) (hz:i.zero=some z)
 (hsize:i.size=size) (hby:i.bytes=bytes) (hzs:z.cells.size=size) (hsz:0<size)
 (v:Value) (n:Nat) (xs:List Value) (hs:a.eval s=v) (hown:w.ownsRow base e size v n xs)
 (ao:Option Addr) (m c:Nat) (news:List Value) (hx:a.eval x=.slice ao m c) (hl:news.length=m*size) (hsrc:m=0∨∃ ad,ao=some ad∧∀ j u,news[j]?=some u→w.cell? (ad.add j)=some u) (h1:∀ u∈news,u.oneCell'=true)
 (h63:n+m≤maxLen) (hbytes:(n+m)*bytes≤140737488355328) (hbase:base≤w.heap.size)
 (h:∀ v' w',w'.ownsRow base e size v' (n+m) (xs++news)→w.grownBy w' v.ownBlock→eU w v v'→wpList P ops Q rest (a.put o.dst v') w'):wpList P ops Q (o :: rest) a w :=
 wpList_plain hgd fun _ hK=>J5 s x t ho base e i z size bytes ht hi hz hsize hby hzs hsz v n xs hs hown ao m c news hx hl hsrc h1 h63 hbytes hbase fun v' w' h2 h3 h4=>hK _ _ (h v' w' h2 h3 h4)
theorem bO {P:Program} {w:World} {ops:Array Oper} {o:Oper} {a:Act} {K:Act→World→Prop} {Q:Exit→Act→World→Prop} {E:Prop} (hgd:o.guard=none) (s x:Operand) (t:TypeId)
 (ho:o.op=.call { callee:=.builtin .append,args:=#[s,x],argTypes:=#[t,t] })
 (base:Nat) (e:TypeId) (i:TypeInfo) (z:Value) (size bytes:Nat) (ht:P.underlying t=some (.slice e)) (hi:P.info? e=some i) (hz:i.zero=some z)
 (hsize:i.size=size) (hby:i.bytes=bytes) (hzs:z.cells.size=size) (hsz:0<size)
 (v:Value) (n:Nat) (xs:List Value) (hs:a.eval s=v) (hown:w.ownsRow base e size v n xs)
 (ao:Option Addr) (m c:Nat) (news:List Value) (hx:a.eval x=.slice ao m c) (hl:news.length=m*size) (hsrc:m=0∨∃ ad,ao=some ad∧∀ j u,news[j]?=some u→w.cell? (ad.add j)=some u) (h1:∀ u∈news,u.oneCell'=true)
 (h63:n+m≤maxLen) (hbytes:(n+m)*bytes≤140737488355328) (hbase:base≤w.heap.size)
 (h:∀ v' w',w'.ownsRow base e size v' (n+m) (xs++news)→w.grownBy w' v.ownBlock→eU w v v'→K (a.put o.dst v') w'):if Region.wanted o (yielded ops a.tmps)=true then Oper.wp P o a w K Q else E:=by
 have hw:Region.wanted o (yielded ops a.tmps)=true:=by simp[Region.wanted,hgd]
 rw[if_pos hw]
 exact J5 s x t ho base e i z size bytes ht hi hz hsize hby hzs hsz v n xs hs hown ao m c news hx hl hsrc h1 h63 hbytes hbase h
end
section
open Go.RowKit
def putAt (l:List Int) (n:Int):Nat:=(l.takeWhile fun x=>decide (x<n)).length
def iW (l:List Int) (n:Int):List Int :=
 if putAt l n<l.length∧zat l (putAt l n)=n then l else l.take (putAt l n)++[n]++l.drop (putAt l n)
theorem BP {l:List Int} {n:Int} {k:Nat} (hk:k≤l.length) (h1:∀ i,i<k→zat l i<n) (h2:k<l.length→n≤zat l k):putAt l n=k:=by
 induction l generalizing k with
 | nil=>simp at hk;subst hk;rfl
 | cons x l ih =>
   cases k with
   | zero =>
     have:=h2 (by simp)
     simp[zat] at this
     simp[putAt,List.takeWhile_cons];omega
   | succ k =>
     have h0:=h1 0 (by omega)
     simp[zat] at h0
     have e:=ih (k:=k) (by simpa using hk) (fun i hi=>by have:=h1 (i+1) (by omega);simpa [zat] using this) (fun h=>by have:=h2 (by simpa using h);simpa [zat] using this)
     simp[putAt,h0] at e ⊢
     exact e
def Ib (w w':World) (v v':Value):Prop:=∀ b,v'.ownBlock=some b→v.ownBlock=some b∨(w.heap.size≤b∧b<w'.heap.size)
theorem rZ {W:World} {B:Nat} {e:TypeId} {v:Value} {l:List Int} {n:Int} {k N:Nat} (hk:k≤l.length) (h1:∀ i,i<k→zat l i<n) (h2:k<l.length→n<zat l k) (hsz:l.length≤1000000000)
 (ho:W.ownsRow B e 1 v N (((((l.drop 0).take k).map (Value.int .i64))++[Value.int .i64 n])++((l.drop k).take (l.length-k)).map (Value.int .i64))):Ints W v (iW l n):=by
 have ea:=BP hk h1 (fun h=>by have:=h2 h;omega)
 have ep:iW l n=l.take k++[n]++l.drop k:=by
  rw[iW,ea,if_neg (fun h=>by have:=h2 h.1;omega)]
 rw[ep]
 refine Ints.bG (B:=B) (e:=e) (n:=N) ?_ (by simp;omega)
 have e1:(l.drop k).take (l.length-k)=l.drop k:=List.take_of_length_le (by simp)
 rw[e1] at ho
 simpa using ho
set_option maxHeartbeats 1000000 in
theorem nW (v:Value) (l:List Int) (n:Int) (w:World) (h:Ints w v l) (hsz:l.length≤1000000000) :
 Calls prog 180 #[v,.int .i64 n] w fun e w'=>∃ v',e=.returned v'∧Ints w' v' (iW l n)∧Ext w w'∧Ib w w' v v':=by
 obtain⟨a,cap,rfl,hlc,hcap,hc⟩:=h
 obtain⟨i0,hi,hz0,hz1,hz2⟩:=info_parts eO
 go_enter Tryz.func180,Tryz.ntmps180
 go_wp2
 go_loop [5] (fun i=>∃ k:Nat,k≤l.length∧i=.int .i64 k∧Hid (∀ i,i<k→zat l i<n)) (fun i=>l.length-(intOf i).toNat)
 case atStart=>exact⟨0,Nat.zero_le _,rfl,fun i h=>absurd h (by omega)⟩
 case round =>
  obtain⟨k,hk,rfl,HN⟩:=hrel
  by_cases hlt:k<l.length
  · obtain⟨b,off,rfl,hcell⟩:=hc (by omega)
    have hck:=hcell k hlt
    by_cases zC:zat l k<n
    · clear hcell hc
      go_wp2
      go_round
      case rel=>exact⟨k+1,by omega,by go_num,fun i hi=>by
       rcases Nat.lt_or_ge i k with h | h
       · exact HN.out i h
       · rw[show i=k by omega];exact zC⟩
      case measure=>simp[intOf];omega
    · by_cases heq:zat l k=n
      · have hb:(zat l k == n)=true:=by simp[heq]
        have hd:decide (zat l k<n)=false:=by simpa using zC
        have HE:=Hd_ heq
        clear heq
        go_wp2
        go_ret
        refine⟨_,rfl,?_,Below.refl _ _,fun b hb=>.inl hb⟩
        have e:=BP hk HN.out (fun _=>by have:=HE.out;omega)
        rw[iW,e,if_pos ⟨hlt,HE.out⟩]
        exact⟨_,_,rfl,hlc,hcap,hc⟩
      · have hb:(zat l k == n)=false:=by simp[heq]
        have hd:decide (zat l k<n)=false:=by simpa using zC
        have HE:=Hd_ heq
        clear heq
        have hcc:=fun (W:World) (hE:Ext w W)=>BD hcell hE
        have HC:=Hd_ hcc
        clear hcc hcell hc
        have hkc:k≤cap:=by omega
        have hkn:¬ cap=k:=by omega
        go_wp2
        go_region_law (first
         | (refine bO rfl (.tmp 33) (.tmp 36) 80 rfl w.heap.size 3 i0 (.int .i64 0) 1 8 underlying80 hi hz0 hz1 hz2 rfl (by decide) (.slice (some ⟨_,0,none⟩) 0 0) 0 [] rfl (by first | exact dD _ _ (by simp) _ | exact(dD _ _ (by simp) _).alloc _ | exact ig _ _ _ (by simp) _) _ k _ (((l.drop 0).take k).map (Value.int .i64)) rfl (by simp;omega) (.inr ⟨⟨b,off,none⟩,rfl,by exact HC.out _ (by go_grown) 0 k (by omega)⟩) (eQ _) (by unfold maxLen;omega) (by omega) (by first | (simp;done) | (simp;omega)) ?_;intro v1 w1 ho1 hg1 hl1;simp only[Nat.zero_add,List.nil_append] at ho1;have e1:Ext w w1:=aV (by go_grown) hg1 (fun k hk=>by simp[Value.ownBlock] at hk;omega))
         | (refine bO rfl (.tmp 37) (.tmp 39) 80 rfl w.heap.size 3 i0 (.int .i64 0) 1 8 underlying80 hi hz0 hz1 hz2 rfl (by decide) v1 k (((l.drop 0).take k).map (Value.int .i64)) rfl (by first | exact ho1 | exact ho1.alloc _) _ 1 _ [Value.int .i64 n] rfl rfl (.inr ⟨_,rfl,bq (by first | exact aO _ _ _ | exact kH hg1 (by first | exact aO _ _ _ | exact qi _ _ _ _ | exact nS _ _ _ _) (by simp[Value.ownBlock]))⟩) one_cell (by unfold maxLen;omega) (by omega) (by have:=e1.size;first | omega | (simp;omega)) ?_;intro v2 w2 ho2 hg2 hl2;have e2:Ext w w2:=aV (by first | exact e1 | exact aM e1 _) hg2 (fun k hk=>(ho1.lt k hk).1))
         | (refine bO rfl (.tmp 40) (.tmp 43) 80 rfl w.heap.size 3 i0 (.int .i64 0) 1 8 underlying80 hi hz0 hz1 hz2 rfl (by decide) v2 (k+1) (((l.drop 0).take k).map (Value.int .i64)++[Value.int .i64 n]) rfl ho2 _ (l.length-k) _ (((l.drop k).take (l.length-k)).map (Value.int .i64)) rfl (by simp) (.inr ⟨⟨b,off+k,none⟩,rfl,HC.out _ e2 k (l.length-k) (by omega)⟩) (eQ _) (by unfold maxLen;omega) (by omega) e2.size ?_;intro v3 w3 ho3 hg3 hl3;have e3:Ext w w3:=aV e2 hg3 (fun k hk=>(ho2.lt k hk).1)))
        all_goals go_wp2
        all_goals go_ret
        all_goals exact⟨_,rfl,rZ hk HN.out (fun _=>by have:=HE.out;omega) hsz ho3,e3,fun b hb=>.inr (ho3.lt b hb)⟩
  · by_cases h0:0<l.length
    · obtain⟨b,off,rfl,hcell⟩:=hc h0
      have hcc:=fun (W:World) (hE:Ext w W)=>BD hcell hE
      have HC:=Hd_ hcc
      have hke:k=l.length:=by omega
      have HK:=Hd_ hke
      clear hcc hcell hc
      subst hke
      go_wp2
      go_region_law (first
       | (refine bO rfl (.tmp 33) (.tmp 36) 80 rfl w.heap.size 3 i0 (.int .i64 0) 1 8 underlying80 hi hz0 hz1 hz2 rfl (by decide) (.slice (some ⟨_,0,none⟩) 0 0) 0 [] rfl (by first | exact dD _ _ (by simp) _ | exact(dD _ _ (by simp) _).alloc _ | exact ig _ _ _ (by simp) _) _ l.length _ (((l.drop 0).take l.length).map (Value.int .i64)) rfl (by simp) (.inr ⟨⟨b,off,none⟩,rfl,HC.out _ (by go_grown) 0 l.length (by omega)⟩) (eQ _) (by unfold maxLen;omega) (by omega) (by first | (simp;done) | (simp;omega)) ?_;intro v1 w1 ho1 hg1 hl1;simp only[Nat.zero_add,List.nil_append] at ho1;have e1:Ext w w1:=aV (by go_grown) hg1 (fun k hk=>by simp[Value.ownBlock] at hk;omega))
       | (refine bO rfl (.tmp 37) (.tmp 39) 80 rfl w.heap.size 3 i0 (.int .i64 0) 1 8 underlying80 hi hz0 hz1 hz2 rfl (by decide) v1 l.length (((l.drop 0).take l.length).map (Value.int .i64)) rfl (by first | exact ho1 | exact ho1.alloc _) _ 1 _ [Value.int .i64 n] rfl rfl (.inr ⟨_,rfl,bq (by first | exact aO _ _ _ | exact kH hg1 (by first | exact aO _ _ _ | exact qi _ _ _ _ | exact nS _ _ _ _) (by simp[Value.ownBlock]))⟩) one_cell (by unfold maxLen;omega) (by omega) (by have:=e1.size;first | omega | (simp;omega)) ?_;intro v2 w2 ho2 hg2 hl2;have e2:Ext w w2:=aV (by first | exact e1 | exact aM e1 _) hg2 (fun k hk=>(ho1.lt k hk).1))
       | (refine bO rfl (.tmp 40) (.tmp 43) 80 rfl w.heap.size 3 i0 (.int .i64 0) 1 8 underlying80 hi hz0 hz1 hz2 rfl (by decide) v2 (l.length+1) (((l.drop 0).take l.length).map (Value.int .i64)++[Value.int .i64 n]) rfl ho2 _ 0 _ [] rfl (by simp) (.inl rfl) (by simp) (by unfold maxLen;omega) (by omega) e2.size ?_;intro v3 w3 ho3 hg3 hl3;have e3:Ext w w3:=aV e2 hg3 (fun k hk=>(ho2.lt k hk).1)))
      all_goals go_wp2
      all_goals go_ret
      all_goals exact⟨_,rfl,rZ (k:=l.length) (Nat.le_refl _) HN.out (fun h=>absurd h (by omega)) hsz (B:=w.heap.size) (e:=3) (v:=v3) (N:=l.length+1) (by simpa using ho3),e3,fun b hb=>.inr (ho3.lt b hb)⟩
    · have hl0:l=[]:=List.eq_nil_of_length_eq_zero (by omega)
      subst hl0
      have hk0:k=0:=by simpa using hk
      subst hk0
      cases a with
      | none =>
        go_wp2
        go_region_law (first
         | (refine bO rfl (.tmp 33) (.tmp 36) 80 rfl w.heap.size 3 i0 (.int .i64 0) 1 8 underlying80 hi hz0 hz1 hz2 rfl (by decide) (.slice (some ⟨_,0,none⟩) 0 0) 0 [] rfl (by first | exact dD _ _ (by simp) _ | exact(dD _ _ (by simp) _).alloc _ | exact ig _ _ _ (by simp) _) _ 0 _ [] rfl (by simp) (.inl rfl) (by simp) (by unfold maxLen;omega) (by omega) (by first | (simp;done) | (simp;omega)) ?_;intro v1 w1 ho1 hg1 hl1;simp only[Nat.add_zero,List.append_nil] at ho1;have e1:Ext w w1:=aV (by go_grown) hg1 (fun k hk=>by simp[Value.ownBlock] at hk;omega))
         | (refine bO rfl (.tmp 37) (.tmp 39) 80 rfl w.heap.size 3 i0 (.int .i64 0) 1 8 underlying80 hi hz0 hz1 hz2 rfl (by decide) v1 0 [] rfl (by first | exact ho1 | exact ho1.alloc _) _ 1 _ [Value.int .i64 n] rfl rfl (.inr ⟨_,rfl,bq (by first | exact aO _ _ _ | exact kH hg1 (by first | exact aO _ _ _ | exact qi _ _ _ _ | exact nS _ _ _ _) (by simp[Value.ownBlock]))⟩) one_cell (by unfold maxLen;omega) (by omega) (by have:=e1.size;first | omega | (simp;omega)) ?_;intro v2 w2 ho2 hg2 hl2;simp only[Nat.zero_add,List.nil_append] at ho2;have e2:Ext w w2:=aV (by first | exact e1 | exact aM e1 _) hg2 (fun k hk=>(ho1.lt k hk).1))
         | (refine bO rfl (.tmp 40) (.tmp 43) 80 rfl w.heap.size 3 i0 (.int .i64 0) 1 8 underlying80 hi hz0 hz1 hz2 rfl (by decide) v2 1 [Value.int .i64 n] rfl ho2 _ 0 _ [] rfl (by simp) (.inl rfl) (by simp) (by unfold maxLen;omega) (by omega) e2.size ?_;intro v3 w3 ho3 hg3 hl3;have e3:Ext w w3:=aV e2 hg3 (fun k hk=>(ho2.lt k hk).1)))
        all_goals go_wp2
        all_goals go_ret
        all_goals exact⟨_,rfl,rZ (l:=[]) (k:=0) (Nat.le_refl _) (fun i h=>absurd h (by omega)) (fun h=>absurd h (by simp)) (by simp) (B:=w.heap.size) (e:=3) (v:=v3) (N:=1) (by simpa using ho3),e3,fun b hb=>.inr (ho3.lt b hb)⟩
      | some ad =>
        go_wp2
        go_region_law (first
         | (refine bO rfl (.tmp 33) (.tmp 36) 80 rfl w.heap.size 3 i0 (.int .i64 0) 1 8 underlying80 hi hz0 hz1 hz2 rfl (by decide) (.slice (some ⟨_,0,none⟩) 0 0) 0 [] rfl (by first | exact dD _ _ (by simp) _ | exact(dD _ _ (by simp) _).alloc _ | exact ig _ _ _ (by simp) _) _ 0 _ [] rfl (by simp) (.inl rfl) (by simp) (by unfold maxLen;omega) (by omega) (by first | (simp;done) | (simp;omega)) ?_;intro v1 w1 ho1 hg1 hl1;simp only[Nat.add_zero,List.append_nil] at ho1;have e1:Ext w w1:=aV (by go_grown) hg1 (fun k hk=>by simp[Value.ownBlock] at hk;omega))
         | (refine bO rfl (.tmp 37) (.tmp 39) 80 rfl w.heap.size 3 i0 (.int .i64 0) 1 8 underlying80 hi hz0 hz1 hz2 rfl (by decide) v1 0 [] rfl (by first | exact ho1 | exact ho1.alloc _) _ 1 _ [Value.int .i64 n] rfl rfl (.inr ⟨_,rfl,bq (by first | exact aO _ _ _ | exact kH hg1 (by first | exact aO _ _ _ | exact qi _ _ _ _ | exact nS _ _ _ _) (by simp[Value.ownBlock]))⟩) one_cell (by unfold maxLen;omega) (by omega) (by have:=e1.size;first | omega | (simp;omega)) ?_;intro v2 w2 ho2 hg2 hl2;simp only[Nat.zero_add,List.nil_append] at ho2;have e2:Ext w w2:=aV (by first | exact e1 | exact aM e1 _) hg2 (fun k hk=>(ho1.lt k hk).1))
         | (refine bO rfl (.tmp 40) (.tmp 43) 80 rfl w.heap.size 3 i0 (.int .i64 0) 1 8 underlying80 hi hz0 hz1 hz2 rfl (by decide) v2 1 [Value.int .i64 n] rfl ho2 _ 0 _ [] rfl (by simp) (.inl rfl) (by simp) (by unfold maxLen;omega) (by omega) e2.size ?_;intro v3 w3 ho3 hg3 hl3;have e3:Ext w w3:=aV e2 hg3 (fun k hk=>(ho2.lt k hk).1)))
        all_goals go_wp2
        all_goals go_ret
        all_goals exact⟨_,rfl,rZ (l:=[]) (k:=0) (Nat.le_refl _) (fun i h=>absurd h (by omega)) (fun h=>absurd h (by simp)) (by simp) (B:=w.heap.size) (e:=3) (v:=v3) (N:=1) (by simpa using ho3),e3,fun b hb=>.inr (ho3.lt b hb)⟩
end
section
open Go.RowKit
def dO (l:List Int):List Int:=l.foldl iW []
theorem rV (l:List Int) (x:Int):dO (l++[x])=iW (dO l) x:=by simp[dO]
theorem KL (l:List Int) (x:Int):(iW l x).length≤l.length+1:=by
 unfold iW
 split
 · omega
 · have:putAt l x≤l.length:=(List.takeWhile_sublist _).length_le
   simp;omega
theorem nO (l:List Int):(dO l).length≤l.length:=by
 have main:∀ (l acc:List Int),(l.foldl iW acc).length≤acc.length+l.length:=by
  intro l
  induction l with
  | nil=>intro acc;simp
  | cons x l ih=>intro acc;have:=ih (iW acc x);have:=KL acc x;simp;omega
 have:=main l []
 simpa [dO] using this
theorem nR {N:Nat} {w w':World} {v v':Value} (h:∀ b,v.ownBlock=some b→N≤b∧b<w.heap.size) (hN:N≤w.heap.size) (hs:w.heap.size≤w'.heap.size) (hn:Ib w w' v v'):∀ b,v'.ownBlock=some b→N≤b∧b<w'.heap.size:=by
 intro b hb
 rcases hn b hb with h1 | h1
 · have:=h b h1;omega
 · omega
set_option maxHeartbeats 400000 in
theorem gN (v:Value) (l:List Int) (w:World) (h:Ints w v l) (hsz:l.length≤1000000000) :
 Calls prog 178 #[v] w fun e w'=>∃ v',e=.returned v'∧Ints w' v' (dO l)∧Ext w w'∧(∀ b,v'.ownBlock=some b→w.heap.size≤b∧b<w'.heap.size):=by
 obtain⟨a,cap,rfl,hlc,hcap,hc⟩:=h
 go_enter Tryz.func178,Tryz.ntmps178
 go_wp2
 go_loopw [3,4] (fun o i wr=>∃ k:Nat,k≤l.length∧i=.int .i64 k∧Ints wr o (dO (l.take k))∧Ext w wr∧Hid (∀ b,o.ownBlock=some b→w.heap.size≤b∧b<wr.heap.size)) (fun _ i _=>l.length-(intOf i).toNat)
 case atStart=>exact⟨0,Nat.zero_le _,rfl,Ints.nil _ _ _,(Below.refl _ _).alloc (Nat.le_refl _) _,fun b hb=>by simp[Value.ownBlock] at hb;subst hb;simp⟩
 case round =>
  obtain⟨k,hk,rfl,hI,dB,HF⟩:=hrel
  by_cases hlt:k<l.length
  · obtain⟨b,off,rfl,hcell⟩:=hc (by omega)
    have hck:=hcell k hlt
    have jF:=(dB.cell (lt_of_cell hck)).trans hck
    have hlen:(dO (l.take k)).length≤1000000000:=by have:=nO (l.take k);have:=List.length_take_le k l;omega
    have hsn:dO (l.take (k+1))=iW (dO (l.take k)) (zat l k):=by rw[jB hlt,rV]
    have HS:=Hd_ hsn
    clear hcell hc hck hsn
    go_wp2_with (go_at_call 180;refine(nW _ _ _ _ hI hlen).mono ?_;rintro e w1 ⟨v1,rfl,hI1,hx1,hn1⟩)
    go_roundw
    case rel=>exact⟨k+1,by omega,by go_num,by rw[HS.out];exact hI1,aa dB hx1,nR HF.out dB.size hx1.size hn1⟩
    case measure=>simp[intOf];omega
  · go_wp2
    go_ret
    have e:k=l.length:=by omega
    subst e
    rw[List.take_length] at hI
    exact⟨_,rfl,hI,dB,HF.out⟩
def woK (l p:List Int) (k:Nat):List Int:=((List.range k).filter fun (i:Nat)=>!fJ p (i:Int)).map (zat l)
def lh (l p:List Int):List Int:=woK l p l.length
theorem Io (l p:List Int) (k:Nat) (h:fJ p (k:Int)=true):woK l p (k+1)=woK l p k:=by
 simp[woK,List.range_succ,List.filter_append,h]
theorem Eu (l p:List Int) (k:Nat) (h:fJ p (k:Int)=false):woK l p (k+1)=woK l p k++[zat l k]:=by
 simp[woK,List.range_succ,List.filter_append,h]
theorem rf (l p:List Int) (k:Nat):(woK l p k).length≤k:=by
 have:=List.length_filter_le (fun (i:Nat)=>!fJ p (i:Int)) (List.range k)
 simp[woK] at this ⊢;exact this
set_option maxHeartbeats 400000 in
theorem tQ (v u:Value) (l p:List Int) (w:World) (h:Ints w v l) (g:Ints w u p) (hsz:l.length≤1000000000) :
 Calls prog 175 #[v,u] w fun e w'=>∃ v',e=.returned v'∧Ints w' v' (lh l p)∧Ext w w'∧(∀ b,v'.ownBlock=some b→w.heap.size≤b∧b<w'.heap.size):=by
 obtain⟨a,cap,rfl,hlc,hcap,hc⟩:=h
 obtain⟨i0,hi,hz0,hz1,hz2⟩:=info_parts eO
 go_enter Tryz.func175,Tryz.ntmps175
 go_wp2
 go_loopw [5,6] (fun o i wr=>∃ k:Nat,k≤l.length∧i=.int .i64 k∧wr.ownsRow w.heap.size 3 1 o (woK l p k).length ((woK l p k).map (Value.int .i64))∧Ext w wr) (fun _ i _=>l.length-(intOf i).toNat)
 case atStart=>exact⟨0,Nat.zero_le _,rfl,dD w _ (Nat.le_refl _) _,(Below.refl _ _).alloc (Nat.le_refl _) _⟩
 case round =>
  obtain⟨k,hk,rfl,hown,dB⟩:=hrel
  by_cases hlt:k<l.length
  · obtain⟨b,off,rfl,hcell⟩:=hc (by omega)
    have hck:=hcell k hlt
    have jF:=(dB.cell (lt_of_cell hck)).trans hck
    have hwl:=rf l p k
    have gw:=g.ext dB
    clear hcell hc hck
    by_cases hin:fJ p (k:Int)=true
    · have HW:=Hd_ (Io l p k hin)
      go_wp2_with (go_at_call 207;refine(lV _ _ _ _ gw).mono ?_;rintro e w1 ⟨rfl,nn,rfl⟩)
      go_roundw
      case rel=>exact⟨k+1,by omega,by go_num,by rw[HW.out];exact own_drewN hown _,bN dB _⟩
      case measure=>simp[intOf];omega
    · have hin':fJ p (k:Int)=false:=by simpa using hin
      have HW:=Hd_ (Eu l p k hin')
      clear hin
      go_wp2_with (first
       | (go_at_call 207;refine(lV _ _ _ _ gw).mono ?_;rintro e w1 ⟨rfl,nn,rfl⟩)
       | (at_builtin;refine aW rfl _ _ 80 rfl w.heap.size 3 i0 (.int .i64 0) 1 8 underlying80 hi hz0 hz1 hz2 rfl (by decide) _ _ _ rfl ((own_drewN hown nn).alloc _) _ 1 _ [Value.int .i64 (zat l k)] rfl rfl (.inr ⟨_,rfl,bq (aO _ _ _)⟩) one_cell (by unfold maxLen;omega) (by omega) (by have:=dB.size;simp;omega) ?_;intro v1 w1 ho1 hg1 _))
      go_roundw
      case rel =>
       refine⟨k+1,by omega,by go_num,?_,rF (bN dB nn) hown hg1⟩
       rw[HW.out]
       simpa using ho1
      case measure=>simp[intOf];omega
  · go_wp2
    go_ret
    have e:k=l.length:=by omega
    subst e
    exact⟨_,rfl,Ints.bG (l:=woK l p l.length) hown (by have:=rf l p l.length;omega),dB,fun b hb=>hown.lt b hb⟩
end
section
open Go.RowKit
open Cgt
def toZ (l:List Nat):List Int:=l.map fun (n:Nat)=>(n:Int)
theorem aj (l:List Nat):(toZ l).length=l.length:=by simp[toZ]
theorem dN {l:List Nat} {k:Nat} (h:k<l.length):zat (toZ l) k=(l[k]:Int):=by
 rw[jP (by rw[aj];exact h)];simp[toZ]
theorem iZ {l:List Nat} {x:Int} (h:x∈toZ l):∃ n,n∈l∧x=(n:Int):=by
 obtain⟨n,hn,rfl⟩:=List.mem_map.1 h;exact⟨n,hn,rfl⟩
structure bg (F:Nat→Prop) (w w':World):Prop where
 os:w'.os=w.os
 tape:w'.tape=w.tape
 output:w'.output=w.output
 size:w.heap.size≤w'.heap.size
 block:∀ k,k<w.heap.size→¬ F k→w'.heap[k]?=w.heap[k]?
theorem bZ {F:Nat→Prop} {w w':World} (h:Ext w w'):bg F w w':=⟨h.os,h.tape,h.output,h.size,fun k hk _=>h.block k hk⟩
theorem bg.trans {F G:Nat→Prop} {a b c:World} (h:bg F a b) (k:bg G b c) (hG:∀ x,x<a.heap.size→G x→F x):bg F a c :=
 ⟨k.os.trans h.os,k.tape.trans h.tape,k.output.trans h.output,Nat.le_trans h.size k.size,fun x hx hf =>
  (k.block x (Nat.lt_of_lt_of_le hx h.size) (fun g=>hf (hG x hx g))).trans (h.block x hx hf)⟩
theorem bg.refl (F:Nat→Prop) (w:World):bg F w w:=⟨rfl,rfl,rfl,Nat.le_refl _,fun _ _ _=>rfl⟩
theorem dC {w:World} {B:Nat} {e:TypeId} {size:Nat} {v:Value} {n:Nat} {xs:List Value} (h:w.ownsRow B e size v n xs) (hn:0<n) :
 ∃ g cap,v=.slice (some ⟨g,0,none⟩) n cap∧n≤cap∧cap≤maxLen∧∀ j,j<n*size→w.cell? ⟨g,j,none⟩=xs[j]?:=by
 rcases h.2 with ⟨rfl,h0⟩ | ⟨g,cap,cur,rfl,hb,hg,hnc,hcm,hcs,ht⟩
 · omega
 · exact⟨g,cap,rfl,hnc,hcm,fun j hj=>World.ownsRow.cellAt h j hj⟩
theorem az {w:World} {B:Nat} {e:TypeId} {size:Nat} {v:Value} {n:Nat} {xs:List Value} (h:w.ownsRow B e size v n xs) :
 ∃ a cap,v=.slice a n cap∧n≤cap∧cap≤maxLen:=by
 rcases h.2 with ⟨rfl,h0⟩ | ⟨g,cap,cur,rfl,hb,hg,hnc,hcm,hcs,ht⟩
 · exact⟨none,0,by rw[h0],by omega,by simp[maxLen]⟩
 · exact⟨_,cap,rfl,hnc,hcm⟩
def InS (pb:Nat) (vn vb:Value) (b:Nat):Prop:=b=pb∨vn.ownBlock=some b∨vb.ownBlock=some b
structure bu (w:World) (pb:Nat) (vn vb:Value) (D:Dag):Prop where
 good:Cgt.Good D
 small:D.length≤1000000
 cells:∃ t,w.heap[pb]?=some (.cells #[vn,vb] t (0,0))
 born:w.ownsRow 0 3 1 vb D.length ((D.mapIdx fun i _=>(born (vl D i):Int)).map (Value.int .i64))
 nodes:∃ xs,w.ownsRow 0 89 2 vn D.length xs∧∀ i (h:i<D.length),∃ L R,xs[2*i]?=some L∧xs[2*i+1]?=some R∧Ints w L (toZ (D[i]).1)∧Ints w R (toZ (D[i]).2) ∧
  (∀ b,L.ownBlock=some b→¬ InS pb vn vb b∧b<w.heap.size)∧(∀ b,R.ownBlock=some b→¬ InS pb vn vb b∧b<w.heap.size)
 fM:vn.ownBlock≠some pb
 gX:vb.ownBlock≠some pb
 gV:∀ b,vn.ownBlock=some b→vb.ownBlock≠some b
theorem bu.ext {w w':World} {pb:Nat} {vn vb:Value} {D:Dag} (h:bu w pb vn vb D) (hx:Ext w w'):bu w' pb vn vb D:=by
 obtain⟨t,ht⟩:=h.cells
 obtain⟨xs,ho,hn⟩:=h.nodes
 refine⟨h.good,h.small,⟨t,?_⟩,aJ h.born hx,⟨xs,aJ ho hx,fun i hi=>?_⟩,h.fM,h.gX,h.gV⟩
 · rw[hx.block pb (Array.getElem?_eq_some_iff.1 ht).1];exact ht
 · obtain⟨L,R,h1,h2,h3,h4,h5,h6⟩:=hn i hi
   exact⟨L,R,h1,h2,h3.ext hx,h4.ext hx,fun b hb=>⟨(h5 b hb).1,Nat.lt_of_lt_of_le (h5 b hb).2 hx.size⟩,fun b hb=>⟨(h6 b hb).1,Nat.lt_of_lt_of_le (h6 b hb).2 hx.size⟩⟩
theorem bu.cell0 {w:World} {pb:Nat} {vn vb:Value} {D:Dag} (h:bu w pb vn vb D):w.cell? ⟨pb,0,none⟩=some vn:=by
 obtain⟨t,ht⟩:=h.cells;rw[cell_of_row w pb 0 _ _ _ ht];rfl
theorem bu.cell1 {w:World} {pb:Nat} {vn vb:Value} {D:Dag} (h:bu w pb vn vb D):w.cell? ⟨pb,1,none⟩=some vb:=by
 obtain⟨t,ht⟩:=h.cells;rw[cell_of_row w pb 1 _ _ _ ht];rfl
theorem bu.free {w:World} {pb:Nat} {vn vb:Value} {D:Dag} (h:bu w pb vn vb D) (o:Nat):w.frozen? ⟨pb,o,none⟩=false:=by
 obtain⟨t,ht⟩:=h.cells;exact frozen_of_row w pb o _ _ ht
theorem bu.lt {w:World} {pb:Nat} {vn vb:Value} {D:Dag} (h:bu w pb vn vb D):pb<w.heap.size:=by
 obtain⟨t,ht⟩:=h.cells;exact(Array.getElem?_eq_some_iff.1 ht).1
end
section
open Go.RowKit
open Cgt (Dag Nd vl Asc)
theorem Ki {l:List Int} (h:l.Pairwise (· < ·)) {i j:Nat} (hij:i<j) (hj:j<l.length):zat l i<zat l j:=by
 rw[jP (by omega),jP hj]
 exact List.pairwise_iff_getElem.1 h i j (by omega) hj hij
theorem A7 (l:List Int) (n:Int):∀ y,y∈l.take (putAt l n)→y<n:=by
 intro y hy
 unfold putAt at hy
 rw[← List.takeWhile_append_dropWhile (p:=fun x=>decide (x<n)) (l:=l)] at hy
 simp at hy
 induction l with
 | nil=>simp at hy
 | cons a l ih =>
   by_cases ha:a<n
   · simp[ha] at hy
     rcases hy with rfl | hy
     · exact ha
     · exact ih hy
   · simp[ha] at hy
theorem oq {l:List Int} {n:Int} (h:l.Pairwise (· < ·)):∀ y,y∈l.drop (putAt l n)→n≤y:=by
 induction l with
 | nil=>intro y hy;simp at hy
 | cons a l ih =>
   intro y hy
   have hl:=List.pairwise_cons.1 h
   by_cases ha:a<n
   · have e:putAt (a :: l) n=putAt l n+1:=by simp[putAt,ha]
     rw[e] at hy
     exact ih hl.2 y (by simpa using hy)
   · have e:putAt (a :: l) n=0:=by simp[putAt,ha]
     rw[e] at hy
     simp at hy
     rcases hy with rfl | hy
     · omega
     · have:=hl.1 y hy;omega
theorem xc {l:List Int} {n y:Int}:y∈iW l n↔y∈l∨y=n:=by
 unfold iW
 split
 · rename_i hp
   constructor
   · exact .inl
   · rintro(h | rfl)
     · exact h
     · obtain⟨hk,he⟩:=hp
       rw[jP hk] at he
       rw[← he];exact List.getElem_mem hk
 · have:y∈l↔y∈l.take (putAt l n)∨y∈l.drop (putAt l n):=by
    rw[← List.mem_append,List.take_append_drop]
   rw[this]
   simp
   constructor
   · rintro(h | h | h)
     · exact .inl (.inl h)
     · exact .inr h
     · exact .inl (.inr h)
   · rintro((h | h) | h)
     · exact .inl h
     · exact .inr (.inr h)
     · exact .inr (.inl h)
theorem BO {l:List Int} {n:Int} (h:l.Pairwise (· < ·)):(iW l n).Pairwise (· < ·):=by
 unfold iW
 split
 · exact h
 · rename_i hp
   rw[show l.take (putAt l n)++[n]++l.drop (putAt l n)=l.take (putAt l n)++n :: l.drop (putAt l n) by simp,List.pairwise_append]
   refine⟨h.sublist (List.take_sublist _ _),List.pairwise_cons.2 ⟨?_,h.sublist (List.drop_sublist _ _)⟩,?_⟩
   · intro y hy
     have h1:=oq h y hy
     have h2:y≠n:=by
      rintro rfl
      apply hp
      obtain⟨i,hi,e⟩:=List.mem_iff_getElem.1 hy
      simp at hi
      have h0:=oq (n:=y) h (zat l (putAt l y)) (by
       rw[jP (by omega)]
       have:(l.drop (putAt l y))[0]'(by simp;omega)=l[putAt l y]:=by simp
       rw[← this];exact List.getElem_mem _)
      refine⟨by omega,?_⟩
      by_cases hi0:i=0
      · subst hi0
        rw[jP (by omega)];simpa using e
      · have h3:=Ki h (i:=putAt l y) (j:=putAt l y+i) (by omega) (by omega)
        rw[List.getElem_drop] at e
        rw[jP (k:=putAt l y+i) (by omega),e] at h3
        omega
     omega
   · intro a ha b hb
     have h1:=A7 l n a ha
     rcases List.mem_cons.1 hb with rfl | hb
     · exact h1
     · have:=oq h b hb
       omega
theorem z8 {l:List Int} {y:Int}:y∈dO l↔y∈l:=by
 have main:∀ (l acc:List Int),y∈l.foldl iW acc↔y∈acc∨y∈l:=by
  intro l
  induction l with
  | nil=>intro acc;simp
  | cons x l ih=>intro acc;simp only[List.foldl_cons,ih,xc,List.mem_cons];exact or_assoc
 have:=main l []
 simpa [dO] using this
theorem IC (l:List Int):(dO l).Pairwise (· < ·):=by
 have main:∀ (l acc:List Int),acc.Pairwise (· < ·)→(l.foldl iW acc).Pairwise (· < ·):=by
  intro l
  induction l with
  | nil=>intro acc h;exact h
  | cons x l ih=>intro acc h;exact ih _ (BO h)
 exact main l [] List.Pairwise.nil
def ai (l:List Nat):List Nat:=(dO (toZ l)).map Int.toNat
theorem gD (l:List Nat):dO (toZ l)=toZ (ai l):=by
 unfold ai
 conv=>rhs;rw[toZ,List.map_map]
 conv=>lhs;rw[← List.map_id (dO (toZ l))]
 refine List.map_congr_left fun x hx=>?_
 obtain⟨n,_,rfl⟩:=iZ (z8.1 hx)
 simp
theorem Ew {a b:List Nat} (h:toZ a=toZ b):a=b:=by
 have:=congrArg (List.map Int.toNat) h
 simpa [toZ,List.map_map,Function.comp_def] using this
theorem mO {l:List Nat} {x:Nat}:(x:Int)∈toZ l↔x∈l:=by
 constructor
 · intro h;obtain⟨n,hn,e⟩:=iZ h;have:x=n:=by omega
   rw[this];exact hn
 · intro h;exact List.mem_map.2 ⟨x,h,rfl⟩
theorem aK {l:List Nat} {x:Nat}:x∈ai l↔x∈l:=by
 rw[← mO,← gD,z8,mO]
theorem fB (l:List Nat):Asc (ai l):=by
 have h:=IC (toZ l)
 rw[gD] at h
 unfold toZ at h
 rw[List.pairwise_map] at h
 exact h.imp fun h=>by omega
theorem lM (l:List Nat):(ai l).length≤l.length:=by
 have:=nO (toZ l);rw[gD,aj,aj] at this;exact this
theorem BG {l:List Nat} (h:Asc l):ai l=l:=Cgt.nu (fB l) h fun _=>aK
end
end Go.Proofs.YteknjeohbcgpdaaGreatDoor