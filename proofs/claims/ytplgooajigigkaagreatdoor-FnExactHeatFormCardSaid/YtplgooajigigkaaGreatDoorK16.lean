/- 16 -/
import Derived.Test.YtplgooajigigkaaGreatDoorK15
set_option maxRecDepth 100000
set_option maxHeartbeats 4000000
namespace Go.Proofs.YtplgooajigigkaaGreatDoor
open Tryz
section
open Go.RowKit
open bE (dh Nd vl Same)
variable {b pp h i:Nat} {w w':World} {T:Nat->Prop}
def pK(l:List Nat):ByteArray:=⟨(l.map UInt8.ofNat).toArray⟩
theorem PN{l m:List Nat}(hl:∀x,x∈l->x<256)(hm:∀x,x∈m->x<256)(h:pK l=pK m):l=m:=by
 have h1:l.map UInt8.ofNat=m.map UInt8.ofNat:=by
  have:=congrArg (λb:ByteArray=>b.data.toList) h
  simpa [pK]using this
 have h2:=congrArg (λl=>l.map UInt8.toNat) h1;simp only[jg]at h2;have e:∀{l:List Nat},(∀x,x∈l->x<256)->l.map (UInt8.toNat ∘ UInt8.ofNat)=l:=λ{l} h=>by
  conv=>rhs;rw[<-Au l]
  refine dC λx hx=>?_
  have:=h x hx;simp[Nat.mod_eq_of_lt this]
 rwa [e hl,e hm]at h2
def xI(nd:List Nat × List Nat):Value:=.string (pK (wV nd.1 nd.2))
theorem Wv{a b:List Nat × List Nat}(h1:∀i,i∈a.1++a.2->i<1000000)(h2:∀i,i∈b.1++b.2->i<1000000)(h:xI a=xI b):a=b:=by
 simp only[xI,Value.string.injEq]at h;have e:=PN (λx hx=>by have:=Fg hx;omega) (λx hx=>by have:=Fg hx;omega) h;obtain⟨e1,e2⟩:=Wx (λi hi=>h1 i (by simp[hi])) (λi hi=>h1 i (by simp[hi])) (λi hi=>h2 i (by simp[hi])) (λi hi=>h2 i (by simp[hi])) e;exact Prod.ext e1 e2
def F7(W:World)(ys:List Value)(l:List Nat):Prop:=∃a c,ys=[.slice a l.length c]/\Ints W (.slice a l.length c) (dB l)
def ji(S:Nat->Prop)(w:World)(v:Value)(l:List Nat):Prop:=oN S (λW=>Ints W v (dB l)) w
structure jF where
 lv:Value
 rv:Value
 bv:Value
 D:dh
 S:Nat->Prop
 cn:Nat->Option Nat
def lg(pp h:Nat)(s:jF)(b:Nat):Prop:=b=pp\/(h<=b/\b<h+1+1+1)\/s.lv.ownBlock=some b\/s.rv.ownBlock=some b\/s.bv.ownBlock=some b
structure CX(D:dh)(cn:Nat->Option Nat):Prop where
 lt:∀i j,cn i=some j->i<D.length/\j<D.length
 ok:∀i j,cn i=some j->bE.Canon (vl D j)/\bE.jc (vl D j) (vl D i)/\bE.born (vl D j)<=bE.born (vl D i)
 self:∀i j,cn i=some j->cn j=some j
 sub:∀i j nd,cn i=some j->D[i]?=some nd->∀x,x∈nd.1++nd.2->(cn x).isSome
structure dA(w:World)(pp h:Nat)(s:jF):Prop where
 good:bE.Good s.D
 small:s.D.length<=900000
 yA:CX s.D s.cn
 box:w.heap[pp]?=some (.cells #[s.lv,s.rv,s.bv,.map (some h),.map (some (h+1)),.map (some (h+1+1)),.map (some (h+1+1+1)),.map (some (h+1+1+1+1))] 156 (0,0))
 left:∃xs,w.ownsRow 0 41 1 s.lv s.D.length xs/\Items F7 s.S 1 xs (s.D.map (·.1)) w
 right:∃xs,w.ownsRow 0 41 1 s.rv s.D.length xs/\Items F7 s.S 1 xs (s.D.map (·.2)) w
 born:w.ownsRow 0 3 1 s.bv s.D.length ((s.D.mapIdx λi _=>(bE.born (vl s.D i):Int)).map (Value.int .i64))
 find:∃f,jb prog 9 w h s.D.length f/\(∀i (hi:i<s.D.length),f (xI s.D[i])=some (.int .i64 (i:Int)))/\∀k v,f k=some v->∃i,∃hi:i<s.D.length,k=xI s.D[i]/\v=.int .i64 (i:Int)
 orders:∃n f,jb prog 219 w (h+1) n f/\∀k v,f k=some v->∃(a b:Nat) (g:Bool),k=.agg #[.int .i64 (a:Int),.int .i64 (b:Int)]/\v=.bool g/\a<s.D.length/\b<s.D.length/\(g=true↔bE.Ge (vl s.D a) (vl s.D b))
 CO:∃n f,jb prog 3 w (h+1+1) n f/\(∀i:Nat,f (.int .i64 (i:Int))=(s.cn i).map λj=>.int .i64 (j:Int))/\∀k v,f k=some v->∃i:Nat,k=.int .i64 (i:Int)
 ap1:pp<h\/h+1+1+1+1+1<=pp
 MU:∀b,s.lv.ownBlock=some b\/s.rv.ownBlock=some b\/s.bv.ownBlock=some b->b≠pp/\(b<h\/h+1+1+1+1+1<=b)
 ap3:∀b,s.lv.ownBlock=some b->s.rv.ownBlock≠some b/\s.bv.ownBlock≠some b
 ap4:∀b,s.rv.ownBlock=some b->s.bv.ownBlock≠some b
 ap5:∀b,s.S b->¬lg pp h s b
 ap6:∀b,s.S b->b<h\/h+1+1+1+1+1<=b
 pJ:∀{m},m<h+1+1+1+1+1->m<w.heap.size
theorem dA.keep{w w':World}{pp h:Nat}{s:jF}{G:Nat->Prop}(k:dA w pp h s)(hk:fJ G w w')(h1:∀b,lg pp h s b->¬G b)(h2:∀b,s.S b->¬G b):dA w' pp h s:=by
 obtain⟨x1,a1,b1⟩:=k.left;obtain⟨x2,a2,b2⟩:=k.right;obtain⟨f,c1,c2⟩:=k.find;obtain⟨n,g,d1,d2⟩:=k.orders;obtain⟨m,q,e1,e2⟩:=k.CO;have hL:∀b,s.lv.ownBlock=some b->¬G b:=λb hb=>h1 b (.inr (.inr (.inl hb)))
 have hR:∀b,s.rv.ownBlock=some b->¬G b:=λb hb=>h1 b (.inr (.inr (.inr (.inl hb))))
 have hB:∀b,s.bv.ownBlock=some b->¬G b:=λb hb=>h1 b (.inr (.inr (.inr (.inr hb))))
 have hM:∀m,h<=m->m<h+1+1+1->¬G m:=λm a b=>h1 m (.inr (.inl ⟨a,b⟩))
 exact⟨k.good,k.small,k.yA,(hk.block _ (bW k.box) (h1 pp (.inl rfl))).trans k.box,⟨x1,bS a1 hk hL,b1.keep hk h2⟩,⟨x2,bS a2 hk hR,b2.keep hk h2⟩,bS k.born hk hB,
  ⟨f,c1.keep (hk.block _ c1.lt (hM _ (by omega) (by omega))),c2⟩,⟨n,g,d1.keep (hk.block _ d1.lt (hM _ (by omega) (by omega))),d2⟩,⟨m,q,e1.keep (hk.block _ e1.lt (hM _ (by omega) (by omega))),e2⟩,k.ap1,k.MU,k.ap3,k.ap4,k.ap5,k.ap6,λhm=>bg (k.pJ hm) hk.size⟩
theorem dA.ext{s:jF}(k:dA w pp h s)(hx:Ext w w'):dA w' pp h s:=
 k.keep (jR (F:=λ_=>False) hx) (λ_ _=>id) (λ_ _=>id)
theorem dA.uZ{s:jF}(k:dA w pp h s)(hb:lg pp h s b):b<w.heap.size:=by
 obtain⟨x1,a1,b1⟩:=k.left;obtain⟨x2,a2,b2⟩:=k.right;obtain⟨f,c1,c2⟩:=k.find;rcases hb with rfl|⟨h1,h2⟩|hb|hb|hb
 .exact bW k.box
 .exact k.pJ (by omega)
 .exact(a1.lt b hb).2
 .exact(a2.lt b hb).2
 .exact(k.born.lt b hb).2
theorem dA.Ae{s:jF}(k:dA w pp h s)(hb:s.S b):b<w.heap.size:=by
 obtain⟨x1,a1,b1⟩:=k.left;exact b1.2.1 b hb
theorem dA.c0{s:jF}(k:dA w pp h s):w.cell? ⟨pp,0,none⟩=some s.lv:=bQ w pp 0 _ _ _ k.box
theorem dA.c1{s:jF}(k:dA w pp h s):w.cell? ⟨pp,1,none⟩=some s.rv:=bQ w pp 1 _ _ _ k.box
theorem dA.c2{s:jF}(k:dA w pp h s):w.cell? ⟨pp,2,none⟩=some s.bv:=bQ w pp 2 _ _ _ k.box
theorem dA.c3{s:jF}(k:dA w pp h s):w.cell? ⟨pp,3,none⟩=some (.map (some h)):=bQ w pp 3 _ _ _ k.box
theorem dA.c4{s:jF}(k:dA w pp h s):w.cell? ⟨pp,4,none⟩=some (.map (some (h+1))):=bQ w pp 4 _ _ _ k.box
theorem dA.c5{s:jF}(k:dA w pp h s):w.cell? ⟨pp,5,none⟩=some (.map (some (h+1+1))):=bQ w pp 5 _ _ _ k.box
theorem ji.out{S:Nat->Prop}{w:World}{v:Value}{l:List Nat}(h:ji S w v l):Ints w v (dB l):=oN.out h
theorem dA.rG{s:jF}(k:dA w pp h s)(hi:i<s.D.length):
 ∃g cap a c,w.cell? ⟨pp,0,none⟩=some (.slice (some ⟨g,0,none⟩) s.D.length cap)/\s.D.length<=cap/\cap<=maxLen/\w.cell? ⟨g,i,none⟩=some (.slice a s.D[i].1.length c)/\ji s.S w (.slice a s.D[i].1.length c) s.D[i].1:=by
 obtain⟨xs,h1,h2⟩:=k.left;obtain⟨g,cap,e1,e2,e3,e4⟩:=iy h1 (by omega);have hi':i<(s.D.map (·.1)).length:=by simpa using hi
 obtain⟨a,c,q1,q2⟩:=h2.2.out i hi';rw[kJ]at q1 q2;have q3:=take_at q1 (j:=0) (by omega);refine⟨g,cap,a,c,by rw[k.c0,e1],e2,e3,by rw[e4 i (by omega)];rw[kT]at q3;exact q3,h2.2.1,λw2 h3=>?_⟩;obtain⟨a',c',q1',q2'⟩:=h2.2.2 w2 h3 i hi';rw[kJ]at q1' q2';rw[q1]at q1';simp only[mf,il,true_and,and_true]at q1';obtain⟨rfl,rfl⟩:=q1';exact q2'
theorem dA.qc{s:jF}(k:dA w pp h s)(hi:i<s.D.length):
 ∃g cap a c,w.cell? ⟨pp,1,none⟩=some (.slice (some ⟨g,0,none⟩) s.D.length cap)/\s.D.length<=cap/\cap<=maxLen/\w.cell? ⟨g,i,none⟩=some (.slice a s.D[i].2.length c)/\ji s.S w (.slice a s.D[i].2.length c) s.D[i].2:=by
 obtain⟨xs,h1,h2⟩:=k.right;obtain⟨g,cap,e1,e2,e3,e4⟩:=iy h1 (by omega);have hi':i<(s.D.map (·.2)).length:=by simpa using hi
 obtain⟨a,c,q1,q2⟩:=h2.2.out i hi';rw[kJ]at q1 q2;have q3:=take_at q1 (j:=0) (by omega);refine⟨g,cap,a,c,by rw[k.c1,e1],e2,e3,by rw[e4 i (by omega)];rw[kT]at q3;exact q3,h2.2.1,λw2 h3=>?_⟩;obtain⟨a',c',q1',q2'⟩:=h2.2.2 w2 h3 i hi';rw[kJ]at q1' q2';rw[q1]at q1';simp only[mf,il,true_and,and_true]at q1';obtain⟨rfl,rfl⟩:=q1';exact q2'
theorem dA.CQ{s:jF}(k:dA w pp h s)(hi:i<s.D.length):
 ∃g cap,w.cell? ⟨pp,2,none⟩=some (.slice (some ⟨g,0,none⟩) s.D.length cap)/\s.D.length<=cap/\cap<=maxLen/\w.cell? ⟨g,i,none⟩=some (.int .i64 (bE.born (vl s.D i):Int)):=by
 obtain⟨g,cap,h1,h2,h3,h4⟩:=iy k.born (by omega);refine⟨g,cap,by rw[k.c2,h1],h2,h3,?_⟩;rw[h4 i (by omega)];simp[hi]
theorem dA.empty(hb:w.heap[h+1+1+1+1+1]?=some (.cells #[.slice none 0 0,.slice none 0 0,.slice none 0 0,.map (some h),.map (some (h+1)),.map (some (h+1+1)),.map (some (h+1+1+1)),.map (some (h+1+1+1+1))] 156 (0,0)))
 (hm:∀m,h<=m->m<h+1+1+1+1+1->w.heap[m]?=some (.map #[] 0)):dA w (h+1+1+1+1+1) h ⟨.slice none 0 0,.slice none 0 0,.slice none 0 0,[],λ_=>False,λ_=>none⟩:=by
 have nb:∀b,(Value.slice none 0 0).ownBlock≠some b:=by intro b;simp[Value.ownBlock]
 refine⟨bE.Good.nil,aU _,⟨λ_ _ h=>by simp at h,λ_ _ h=>by simp at h,λ_ _ h=>by simp at h,λ_ _ _ h=>by simp at h⟩,hb,⟨[],⟨by simp,.inl ⟨rfl,rfl⟩⟩,Items.nil λ_ h=>h.elim⟩,⟨[],⟨by simp,.inl ⟨rfl,rfl⟩⟩,Items.nil λ_ h=>h.elim⟩,⟨by simp,.inl ⟨rfl,rfl⟩⟩,?_,?_,?_,by omega,?_,?_,?_,λ_ h=>h.elim,λ_ h=>h.elim,?_⟩
 .exact⟨_,jb.made _ _ (hm h (by omega) (by omega)),λi hi=>absurd hi (by simp),λ_ _ h=>by cases h⟩
 .exact⟨0,_,jb.made _ _ (hm (h+1) (by omega) (by omega)),λ_ _ h=>by cases h⟩
 .exact⟨0,_,jb.made _ _ (hm (h+1+1) (by omega) (by omega)),λ_=>rfl,λ_ _ h=>by cases h⟩
 .intro b hb;simp[nb]at hb
 .intro b hb;simp[nb]at hb
 .intro b hb;simp[nb]at hb
 .intro m h1;have:=bW hb;omega
structure jr(pp h:Nat)(s:jF)(w:World)(s':jF)(w':World):Prop where
 pool:dA w' pp h s'
 keep:fJ (lg pp h s) w w'
 own:∀b,lg pp h s' b->lg pp h s b\/w.heap.size<=b
 old:∀b,s.S b->s'.S b
 lists:∀b,s'.S b->s.S b\/w.heap.size<=b
 more:∃E,s'.D=s.D++E
 known:∀i j,s.cn i=some j->s'.cn i=some j
theorem jr.refl{w w':World}{pp h:Nat}{s:jF}(k:dA w pp h s)(hx:Ext w w'):jr pp h s w s w':=⟨k.ext hx,jR hx,λ_ h=>.inl h,λ_ h=>h,λ_ h=>.inl h,⟨[],by simp⟩,λ_ _ h=>h⟩
theorem jr.trans{w1 w2 w3:World}{pp h:Nat}{s1 s2 s3:jF}(k:jr pp h s1 w1 s2 w2)(m:jr pp h s2 w2 s3 w3):jr pp h s1 w1 s3 w3:=by
 have hz:=k.keep.size;refine⟨m.pool,k.keep.trans m.keep (λx hx hi=>by rcases k.own x hi with h|h;exact h;omega),λx hx=>?_,λb hb=>m.old b (k.old b hb),λx hx=>?_,?_,λi j hi=>m.known i j (k.known i j hi)⟩
 .rcases m.own x hx with h1|h1
  .exact k.own x h1
  .exact .inr (by omega)
 .rcases m.lists x hx with h1|h1
  .exact k.lists x h1
  .exact .inr (by omega)
 .obtain⟨E,h1⟩:=k.more
  obtain⟨E',h2⟩:=m.more;exact⟨E++E',by rw[h2,h1,dY]⟩
theorem jr.ext{w1 w2 w3:World}{s1 s2:jF}(k:jr pp h s1 w1 s2 w2)(hx:Ext w2 w3):jr pp h s1 w1 s2 w3:=k.trans (jr.refl k.pool hx)
theorem jr.len{s s':jF}(k:jr pp h s w s' w'):s.D.length<=s'.D.length:=by obtain⟨E,h⟩:=k.more;rw[h];simp
theorem jr.vl{w w':World}{pp h:Nat}{s s':jF}(k:jr pp h s w s' w')(hw:bE.WF s.D){i:Nat}(hi:i<s.D.length):vl s'.D i=vl s.D i:=by
 obtain⟨E,h⟩:=k.more;have hg:=k.pool.good.wf;rw[h]at hg ⊢;exact bE.jJ hw hg i hi
def Off(pp h:Nat)(s:jF)(w:World)(T:Nat->Prop):Prop:=∀b,T b->b<w.heap.size/\¬lg pp h s b
theorem Off.go{s s':jF}(o:Off pp h s w T)(k:jr pp h s w s' w'):Off pp h s' w' T:=λb hb=>by
 have h1:=o b hb;have hz:=k.keep.size;refine⟨by omega,λh2=>?_⟩;rcases k.own b h2 with h3|h3
 .exact h1.2 h3
 .omega
theorem Off.lists{s:jF}(k:dA w pp h s):Off pp h s w s.S:=λb hb=>⟨k.Ae hb,k.ap5 b hb⟩
theorem Off.ext{s:jF}(o:Off pp h s w T)(hx:Ext w w'):Off pp h s w' T:=λb hb=>⟨bg (o b hb).1 hx.size,(o b hb).2⟩
theorem oN.go{s s':jF}{A:World->Prop}(a:oN T A w)(o:Off pp h s w T)(k:jr pp h s w s' w'):oN T A w':=a.keep k.keep λb hb=>(o b hb).2
end
section
open bE
variable {D E:dh} {root i N:Nat} {left:Bool} {l q line B:List Nat}
structure jT(D:dh)(root:Nat)(left:Bool)(l q line B:List Nat):Prop where
 nodup:line.Nodup
 lt:∀x,x∈line\/x∈q->x<D.length
 sub:∀x,x∈l->x∈line\/x∈q
 sound:∀x,x∈line\/x∈q->x∈l\/∃k,k<D.length/\nU D left root k/\x∈opt D left k
 kept:∀x,x∈B->x∈line/\∀y,y∈opt D (!left) x->¬nU D left root y
 FX:B.Nodup
 done:∀x,x∈line->x∈B\/∃y,y∈opt D (!left) x/\nU D left root y/\∀z,z∈opt D left y->z∈line\/z∈q
 zC:B.length<=line.length
 xn:∀P:Nat->Prop,(∀i side x,P i->x∈opt D side i->P x)->(∀x,x∈l->P x)->∀x,x∈line\/x∈q->P x
theorem jT.start(hl:∀x,x∈l->x<D.length):jT D root left l l [] []:=
 ⟨List.nodup_nil,λx h=>by rcases h with h|h;cases h;exact hl x h,λx h=>.inr h,λx h=>by rcases h with h|h;cases h;exact .inl h,by simp,List.nodup_nil,by simp,aJ _,λP _ hp x h=>by rcases h with h|h;cases h;exact hp x h⟩
theorem jT.len(h:jT D root left l q line B):line.length<=D.length:=jW h.nodup λx hx=>h.lt x (.inl hx)
theorem jT.skip(h:jT D root left l (q++[i]) line B)(hi:i∈line):jT D root left l q line B:=by
 have m:∀x,x∈line\/x∈q++[i]->x∈line\/x∈q:=λx hx=>by
  rcases hx with hx|hx
  .exact .inl hx
  .rcases bq.1 hx with hx|hx
   .exact .inr hx
   .simp at hx;subst hx;exact .inl hi
 have m2:∀x,x∈line\/x∈q->x∈line\/x∈q++[i]:=λx hx=>by
  rcases hx with hx|hx
  .exact .inl hx
  .exact .inr (bq.2 (.inl hx))
 exact⟨h.nodup,λx hx=>h.lt x (m2 x hx),λx hx=>m x (h.sub x hx),λx hx=>h.sound x (m2 x hx),h.kept,h.FX,λx hx=>by
  rcases h.done x hx with a|⟨y,a,b,c⟩
  .exact .inl a
  .exact .inr ⟨y,a,b,λz hz=>m z (c z hz)⟩,h.zC,λP hc hp x hx=>h.xn P hc hp x (m2 x hx)⟩
theorem jT.keep(h:jT D root left l (q++[i]) line B)(hi:i ∉ line)(hn:∀y,y∈opt D (!left) i->¬nU D left root y):jT D root left l q (line++[i]) (B++[i]):=by
 have m:∀x,x∈line\/x∈q++[i]->x∈line++[i]\/x∈q:=λx hx=>by
  rcases hx with hx|hx
  .exact .inl (by simp[hx])
  .rcases bq.1 hx with hx|hx
   .exact .inr hx
   .exact .inl (bq.2 (.inr hx))
 have m2:∀x,x∈line++[i]\/x∈q->x∈line\/x∈q++[i]:=λx hx=>by
  rcases hx with hx|hx
  .rcases bq.1 hx with hx|hx
   .exact .inl hx
   .exact .inr (bq.2 (.inr hx))
  .exact .inr (bq.2 (.inl hx))
 refine⟨?_,λx hx=>h.lt x (m2 x hx),λx hx=>m x (h.sub x hx),λx hx=>h.sound x (m2 x hx),λx hx=>?_,?_,λx hx=>?_,by simp;exact h.zC,λP hc hp x hx=>h.xn P hc hp x (m2 x hx)⟩
 .rw[nW];exact⟨h.nodup,by simp,λa ha b hb=>by simp at hb;subst hb;rintro rfl;exact hi ha⟩
 .rcases bq.1 hx with hx|hx
  .exact⟨by simp[(h.kept x hx).1],(h.kept x hx).2⟩
  .simp at hx;subst hx;exact⟨by simp,hn⟩
 .rw[nW];exact⟨h.FX,by simp,λa ha b hb=>by simp at hb;subst hb;rintro rfl;exact hi (h.kept a ha).1⟩
 .rcases bq.1 hx with hx|hx
  .rcases h.done x hx with a|⟨y,a,b,c⟩
   .exact .inl (by simp[a])
   .exact .inr ⟨y,a,b,λz hz=>m z (c z hz)⟩
  .exact .inl (bq.2 (.inr hx))
theorem jT.pass(hD:WF D){y:Nat}(h:jT D root left l (q++[i]) line B)(hi:i ∉ line)(hy:y∈opt D (!left) i)(hg:nU D left root y):jT D root left l (q++opt D left y) (line++[i]) B:=by
 have hil:i<D.length:=h.lt i (.inr (by simp));have hyl:y<D.length:=by have:=lU hD hy;omega
 have m:∀x,x∈line\/x∈q++[i]->x∈line++[i]\/x∈q++opt D left y:=λx hx=>by
  rcases hx with hx|hx
  .exact .inl (by simp[hx])
  .rcases bq.1 hx with hx|hx
   .exact .inr (by simp[hx])
   .exact .inl (bq.2 (.inr hx))
 have m2:∀x,x∈line++[i]\/x∈q++opt D left y->(x∈line\/x∈q++[i])\/x∈opt D left y:=λx hx=>by
  rcases hx with hx|hx
  .rcases bq.1 hx with hx|hx
   .exact .inl (.inl hx)
   .exact .inl (.inr (bq.2 (.inr hx)))
  .rcases bq.1 hx with hx|hx
   .exact .inl (.inr (bq.2 (.inl hx)))
   .exact .inr hx
 refine⟨?_,λx hx=>?_,λx hx=>m x (h.sub x hx),λx hx=>?_,λx hx=>⟨by simp[(h.kept x hx).1],(h.kept x hx).2⟩,h.FX,λx hx=>?_,by simp;have:=h.zC;omega,λP hc hp x hx=>?_⟩
 .rw[nW];exact⟨h.nodup,by simp,λa ha b hb=>by simp at hb;subst hb;rintro rfl;exact hi ha⟩
 .rcases m2 x hx with hx|hx
  .exact h.lt x hx
  .have:=lU hD hx;omega
 .rcases m2 x hx with hx|hx
  .exact h.sound x hx
  .exact .inr ⟨y,hyl,hg,hx⟩
 .rcases bq.1 hx with hx|hx
  .rcases h.done x hx with a|⟨y,a,b,c⟩
   .exact .inl a
   .exact .inr ⟨y,a,b,λz hz=>m z (c z hz)⟩
  .simp at hx;subst hx
   exact .inr ⟨y,hy,hg,λz hz=>.inr (bq.2 (.inr hz))⟩
 .rcases m2 x hx with hx|hx
  .exact h.xn P hc hp x hx
  .exact hc _ _ _ (hc _ _ _ (h.xn P hc hp i (.inr (by simp))) hy) hx
theorem jT.open(h:jT D root left l [] line B):jd D root left l line B line.length:=by
 have m:∀x,x∈line\/x∈([]:List Nat)->x∈line:=λx hx=>by rcases hx with hx|hx;exact hx;cases hx
 exact⟨h.nodup,λx hx=>h.lt x (.inl hx),λx hx=>m x (h.sub x hx),λx hx=>h.sound x (.inl hx),h.kept,λj hj _=>by
  rcases h.done _ (ai hj)with a|⟨y,a,b,c⟩
  .exact .inl a
  .exact .inr ⟨y,a,b,λz hz=>m z (c z hz)⟩,h.zC,λP hc hp x hx=>h.xn P hc hp x (.inl hx)⟩
theorem VQ{side:Bool}:∀x,x∈opt D side i->i<D.length:=λx hx=>by
 unfold opt at hx;cases e:D[i]? with
 |none=>rw[e]at hx;simp at hx
 |some nd=>exact(df.1 e).1
theorem yt(hD:WF D)(hE:WF (D++E)){j:Nat}(hi:i<D.length)(hj:j<D.length):nU (D++E) left i j↔nU D left i j:=by
 unfold nU;rw[jJ hD hE i hi,jJ hD hE j hj]
theorem jd.more(hD:WF D)(hE:WF (D++E))(hr:root<D.length)(h:jd D root left l line B i):jd (D++E) root left l line B i:=by
 refine⟨h.nodup,λx hx=>by have:=h.lt x hx;simp;omega,h.sub,λx hx=>?_,λx hx=>?_,λj hj hji=>?_,h.zC,λP hc hp x hx=>?_⟩
 .rcases h.sound x hx with a|⟨k,a,b,c⟩
  .exact .inl a
  .exact .inr ⟨k,by simp;omega,(yt hD hE hr a).2 b,by rw[qO a];exact c⟩
 .obtain⟨a,b⟩:=h.kept x hx
  refine⟨a,λy hy hg=>?_⟩;have hxl:=h.lt x a;rw[qO hxl]at hy;exact b y hy ((yt hD hE hr (by have:=lU hD hy;omega)).1 hg)
 .rcases h.done j hj hji with a|⟨y,a,b,c⟩
  .exact .inl a
  .have hjl:=h.lt _ (ai hj)
   have hyl:y<D.length:=(by have:=lU hD a;omega);exact .inr ⟨y,by rw[qO hjl];exact a,(yt hD hE hr hyl).2 b,λz hz=>c z (by rw[qO hyl]at hz;exact hz)⟩
 .exact h.xn P (λi side x hi hx'=>hc i side x hi (by rw[qO (VQ x hx')];exact hx')) hp x hx
theorem yG.more(hD:WF D)(hE:WF (D++E)){F:List Nat}(hB:∀x,x∈B->x<D.length)(h:yG D left B F):yG (D++E) left B F:=by
 refine⟨λx hx=>?_,λx hx=>?_⟩
 .obtain⟨a,b⟩:=h.1 x hx
  exact⟨a,λz hz hg=>b z hz ((yt hD hE (hB z hz) (hB x a)).1 hg)⟩
 .obtain⟨z,hz,hg⟩:=h.2 x hx
  exact⟨z,hz,(yt hD hE (hB z (h.1 z hz).1) (hB x hx)).2 hg⟩
theorem Sq(hD:WF D){r x8 BL xZ BR FL FR:List Nat}(hE:jc (.mk (l.map (vl D)) (r.map (vl D))) (vl D root))(cl:∀x,x∈l->Canon (vl D x))(cr:∀x,x∈r->Canon (vl D x))
 (iL:jd D root true l x8 BL x8.length) (iR:jd D root false r xZ BR xZ.length) (mL:yG D true BL FL) (mR:yG D false BR FR):
 jc (.mk (FL.map (vl D)) (FR.map (vl D))) (vl D root)/\Canon (.mk (FL.map (vl D)) (FR.map (vl D))):=by
 have sR:∀x,x∈FR->¬Ge (vl D root) (vl D x):=by
  intro x hx;rcases iR.sound x (iR.kept x (mR.1 x hx).1).1 with h|⟨k,_,hk,h⟩
  .intro c
   exact lJ (a:=.mk (l.map (vl D)) (r.map (vl D))) (az.2 ⟨x,h,rfl⟩) (hE.qo.2 c)
  .exact Qs (by simpa [nU]using hk) (Bf hD h)
 have sL:∀x,x∈FL->¬Ge (vl D x) (vl D root):=by
  intro x hx;rcases iL.sound x (iL.kept x (mL.1 x hx).1).1 with h|⟨k,_,hk,h⟩
  .intro c
   exact kV (a:=.mk (l.map (vl D)) (r.map (vl D))) (az.2 ⟨x,h,rfl⟩) (hE.ow.2 c)
  .exact Qt (by simpa [nU]using hk) (Bh hD h)
 have g1:Ge (.mk (FL.map (vl D)) (FR.map (vl D))) (.mk (l.map (vl D)) (r.map (vl D))):=by
  refine Ib (λg=>∃x,x∈x8/\g=vl D x) ?_ ?_ ?_
  .intro g hg
   obtain⟨x,hx,rfl⟩:=az.1 (show g∈l.map (vl D) from hg);exact⟨_,⟨x,iL.sub x hx,rfl⟩,pz _⟩
  .rintro _ ⟨x,hx,rfl⟩
   obtain⟨j,hj,rfl⟩:=aQ.1 hx;rcases iL.done j hj hj with h|⟨y,hy,hg,hz⟩
   .obtain⟨z,hz,hg⟩:=mL.2 _ h
    exact .inl ⟨vl D z,az.2 ⟨z,hz,rfl⟩,by simpa [nU]using hg⟩
   .refine .inr ⟨vl D y,Bf hD (by simpa using hy),hE.qo.2 (by simpa [nU]using hg),λg hg'=>?_⟩
    obtain⟨z,hz',rfl⟩:=QQ hD hg';exact⟨z,hz z hz',rfl⟩
  .intro g hg
   obtain⟨x,hx,rfl⟩:=az.1 (show g∈FR.map (vl D) from hg);intro c;exact sR x hx (hE.qo.1 c)
 have g2:Ge (.mk (l.map (vl D)) (r.map (vl D))) (.mk (FL.map (vl D)) (FR.map (vl D))):=by
  refine Ia (λg=>∃x,x∈xZ/\g=vl D x) ?_ ?_ ?_
  .intro g hg
   obtain⟨x,hx,rfl⟩:=az.1 (show g∈r.map (vl D) from hg);exact⟨_,⟨x,iR.sub x hx,rfl⟩,pz _⟩
  .rintro _ ⟨x,hx,rfl⟩
   obtain⟨j,hj,rfl⟩:=aQ.1 hx;rcases iR.done j hj hj with h|⟨y,hy,hg,hz⟩
   .obtain⟨z,hz,hg⟩:=mR.2 _ h
    exact .inl ⟨vl D z,az.2 ⟨z,hz,rfl⟩,by simpa [nU]using hg⟩
   .refine .inr ⟨vl D y,Bh hD (by simpa using hy),hE.ow.2 (by simpa [nU]using hg),λg hg'=>?_⟩
    obtain⟨z,hz',rfl⟩:=Qz hD hg';exact⟨z,hz z hz',rfl⟩
  .intro g hg
   obtain⟨x,hx,rfl⟩:=az.1 (show g∈FL.map (vl D) from hg);intro c;exact sL x hx (hE.ow.1 c)
 refine⟨jc.trans ⟨g1,g2⟩ hE,Canon.mk _ ⟨?_,?_,?_,?_⟩ ?_ ?_⟩
 .intro x y hx hy h
  obtain⟨a,ha,rfl⟩:=az.1 hx;obtain⟨b,hb,rfl⟩:=az.1 hy;rw[(mL.1 b hb).2 a (mL.1 a ha).1 (by simpa [nU]using h)];exact gT _
 .intro x y hx hy h
  obtain⟨a,ha,rfl⟩:=az.1 hx;obtain⟨b,hb,rfl⟩:=az.1 hy;rw[(mR.1 a ha).2 b (mR.1 b hb).1 (by simpa [nU]using h)];exact gT _
 .intro x hx y hy h
  obtain⟨a,ha,rfl⟩:=az.1 hx;obtain⟨c,hc,rfl⟩:=Qz hD hy;have:=(iL.kept a (mL.1 a ha).1).2 c (by simpa using hc);simp[nU]at this;exact this (hE.qo.1 (bH _ _ _ g2 h))
 .intro x hx y hy h
  obtain⟨a,ha,rfl⟩:=az.1 hx;obtain⟨c,hc,rfl⟩:=QQ hD hy;have:=(iR.kept a (mR.1 a ha).1).2 c (by simpa using hc);simp[nU]at this;exact this (hE.ow.1 (bH _ _ _ h g1))
 .intro x hx
  obtain⟨a,ha,rfl⟩:=az.1 hx;exact om hD iL cl a (iL.kept a (mL.1 a ha).1).1
 .intro x hx
  obtain⟨a,ha,rfl⟩:=az.1 hx;exact om hD iR cr a (iR.kept a (mR.1 a ha).1).1
def miss(N:Nat)(cn:Nat->Option Nat):Nat:=((List.range N).filter λx=>(cn x).isNone).length
theorem Z6{f:Nat}{cn DD:Nat->Option Nat}(h:∀x,x<N->(cn x).isSome->(DD x).isSome)(hf:f<N)(h1:cn f=none)(h2:(DD f).isSome):miss N DD+1<=miss N cn:=by
 unfold miss;have key:∀l:List Nat,(∀x,x∈l->x<N)->(f∈l->(l.filter λx=>(DD x).isNone).length+1<=(l.filter λx=>(cn x).isNone).length)/\(l.filter λx=>(DD x).isNone).length<=(l.filter λx=>(cn x).isNone).length:=by
  intro l
  induction l with
  |nil=>intro _;simp
  |cons x l ih=>
   intro hl;obtain⟨h3,h4⟩:=ih λy hy=>hl y (by simp[hy])
   have hx:=h x (hl x (by simp));simp only[List.filter_cons,jk];by_cases e:f=x
   .subst e
    have:(DD f).isNone=false:=by cases e:DD f with|none=>rw[e]at h2;cases h2|some _=>rfl
    rw[this,h1];simp;omega
   .have hm:(f=x\/f∈l)↔f∈l:=by simp[e]
    rw[hm];cases e1:cn x with
    |none=>split <;> simp <;> constructor <;> intros <;> first|omega|(have:=h3 (by assumption);omega)
    |some j=>
     rw[e1]at hx;have h5:=hx rfl;have:(DD x).isNone=false:=by cases e:DD x with|none=>rw[e]at h5;cases h5|some _=>rfl
     simp[this];exact⟨λh=>by have:=h3 h;omega,h4⟩
 exact(key _ λx hx=>dz.1 hx).1 (dz.2 hf)
theorem Ik{M:Nat}(h:N<=M)(cn:Nat->Option Nat):miss N cn<=miss M cn:=by
 unfold miss;obtain⟨k,rfl⟩:∃k,M=N+k:=⟨M-N,by omega⟩;rw[List.range_add,List.filter_append,bu];omega
end
