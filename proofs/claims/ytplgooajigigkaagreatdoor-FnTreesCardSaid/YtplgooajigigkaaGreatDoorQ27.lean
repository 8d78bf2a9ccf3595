/- 27 -/
import Derived.Test.YtplgooajigigkaaGreatDoorQ23
set_option maxRecDepth 100000
set_option maxHeartbeats 4000000
namespace Go.Proofs.YtplgooajigigkaaGreatDoor
open Tryz
section
open Go.RowKit
open aZ (cZ Nd vl Same)
variable {b pp h i:Nat} {w w':World} {T:Nat->Prop}
def mG(l:List Nat):ByteArray:=⟨(l.map UInt8.ofNat).toArray⟩
theorem Me{l m:List Nat}(hl:∀x,x∈l->x<256)(hm:∀x,x∈m->x<256)(h:mG l=mG m):l=m:=by
 have h1:l.map UInt8.ofNat=m.map UInt8.ofNat:=by
  have:=congrArg (λb:ByteArray=>b.data.toList) h
  simpa [mG]using this
 have h2:=congrArg (λl=>l.map UInt8.toNat) h1;simp only[eP]at h2;have e:∀{l:List Nat},(∀x,x∈l->x<256)->l.map (UInt8.toNat ∘ UInt8.ofNat)=l:=λ{l} h=>by
  conv=>rhs;rw[<-o6 l]
  refine bE λx hx=>?_
  have:=h x hx;simp[Nat.mod_eq_of_lt this]
 rwa [e hl,e hm]at h2
def ui(nd:List Nat × List Nat):Value:=.string (mG (sK nd.1 nd.2))
theorem R3{a b:List Nat × List Nat}(h1:∀i,i∈a.1++a.2->i<1000000)(h2:∀i,i∈b.1++b.2->i<1000000)(h:ui a=ui b):a=b:=by
 simp only[ui,Value.string.injEq]at h;have e:=Me (λx hx=>by have:=BO hx;omega) (λx hx=>by have:=BO hx;omega) h;obtain⟨e1,e2⟩:=R6 (λi hi=>h1 i (by simp[hi])) (λi hi=>h1 i (by simp[hi])) (λi hi=>h2 i (by simp[hi])) (λi hi=>h2 i (by simp[hi])) e;exact Prod.ext e1 e2
def Cz(W:World)(ys:List Value)(l:List Nat):Prop:=∃a c,ys=[.slice a l.length c]/\Ints W (.slice a l.length c) (bV l)
def jB(S:Nat->Prop)(w:World)(v:Value)(l:List Nat):Prop:=nN S (λW=>Ints W v (bV l)) w
structure iK where
 lv:Value
 rv:Value
 bv:Value
 D:cZ
 S:Nat->Prop
 cn:Nat->Option Nat
def jI(pp h:Nat)(s:iK)(b:Nat):Prop:=b=pp\/(h<=b/\b<h+1+1+1)\/s.lv.ownBlock=some b\/s.rv.ownBlock=some b\/s.bv.ownBlock=some b
structure zA(D:cZ)(cn:Nat->Option Nat):Prop where
 lt:∀i j,cn i=some j->i<D.length/\j<D.length
 ok:∀i j,cn i=some j->aZ.Canon (vl D j)/\aZ.eU (vl D j) (vl D i)/\aZ.born (vl D j)<=aZ.born (vl D i)
 self:∀i j,cn i=some j->cn j=some j
 sub:∀i j nd,cn i=some j->D[i]?=some nd->∀x,x∈nd.1++nd.2->(cn x).isSome
structure bX(w:World)(pp h:Nat)(s:iK):Prop where
 good:aZ.Good s.D
 small:s.D.length<=900000
 uT:zA s.D s.cn
 box:w.heap[pp]?=some (.cells #[s.lv,s.rv,s.bv,.map (some h),.map (some (h+1)),.map (some (h+1+1)),.map (some (h+1+1+1)),.map (some (h+1+1+1+1))] 156 (0,0))
 left:∃xs,w.ownsRow 0 41 1 s.lv s.D.length xs/\Items Cz s.S 1 xs (s.D.map (·.1)) w
 right:∃xs,w.ownsRow 0 41 1 s.rv s.D.length xs/\Items Cz s.S 1 xs (s.D.map (·.2)) w
 born:w.ownsRow 0 3 1 s.bv s.D.length ((s.D.mapIdx λi _=>(aZ.born (vl s.D i):Int)).map (Value.int .i64))
 find:∃f,fM prog 9 w h s.D.length f/\(∀i (hi:i<s.D.length),f (ui s.D[i])=some (.int .i64 (i:Int)))/\∀k v,f k=some v->∃i,∃hi:i<s.D.length,k=ui s.D[i]/\v=.int .i64 (i:Int)
 orders:∃n f,fM prog 219 w (h+1) n f/\∀k v,f k=some v->∃(a b:Nat) (g:Bool),k=.agg #[.int .i64 (a:Int),.int .i64 (b:Int)]/\v=.bool g/\a<s.D.length/\b<s.D.length/\(g=true↔aZ.Ge (vl s.D a) (vl s.D b))
 zm:∃n f,fM prog 3 w (h+1+1) n f/\(∀i:Nat,f (.int .i64 (i:Int))=(s.cn i).map λj=>.int .i64 (j:Int))/\∀k v,f k=some v->∃i:Nat,k=.int .i64 (i:Int)
 Zd:pp<h\/h+1+1+1+1+1<=pp
 Ev:∀b,s.lv.ownBlock=some b\/s.rv.ownBlock=some b\/s.bv.ownBlock=some b->b≠pp/\(b<h\/h+1+1+1+1+1<=b)
 Zc:∀b,s.lv.ownBlock=some b->s.rv.ownBlock≠some b/\s.bv.ownBlock≠some b
 ap4:∀b,s.rv.ownBlock=some b->s.bv.ownBlock≠some b
 ap5:∀b,s.S b->¬jI pp h s b
 ap6:∀b,s.S b->b<h\/h+1+1+1+1+1<=b
 ni:∀{m},m<h+1+1+1+1+1->m<w.heap.size
theorem bX.keep{w w':World}{pp h:Nat}{s:iK}{G:Nat->Prop}(k:bX w pp h s)(hk:dW G w w')(h1:∀b,jI pp h s b->¬G b)(h2:∀b,s.S b->¬G b):bX w' pp h s:=by
 obtain⟨x1,a1,b1⟩:=k.left;obtain⟨x2,a2,b2⟩:=k.right;obtain⟨f,c1,c2⟩:=k.find;obtain⟨n,g,d1,d2⟩:=k.orders;obtain⟨m,q,e1,e2⟩:=k.zm;have hL:∀b,s.lv.ownBlock=some b->¬G b:=λb hb=>h1 b (.inr (.inr (.inl hb)))
 have hR:∀b,s.rv.ownBlock=some b->¬G b:=λb hb=>h1 b (.inr (.inr (.inr (.inl hb))))
 have hB:∀b,s.bv.ownBlock=some b->¬G b:=λb hb=>h1 b (.inr (.inr (.inr (.inr hb))))
 have hM:∀m,h<=m->m<h+1+1+1->¬G m:=λm a b=>h1 m (.inr (.inl ⟨a,b⟩))
 exact⟨k.good,k.small,k.uT,(hk.block _ (bq k.box) (h1 pp (.inl rfl))).trans k.box,⟨x1,aV a1 hk hL,b1.keep hk h2⟩,⟨x2,aV a2 hk hR,b2.keep hk h2⟩,aV k.born hk hB,
  ⟨f,c1.keep (hk.block _ c1.lt (hM _ (by omega) (by omega))),c2⟩,⟨n,g,d1.keep (hk.block _ d1.lt (hM _ (by omega) (by omega))),d2⟩,⟨m,q,e1.keep (hk.block _ e1.lt (hM _ (by omega) (by omega))),e2⟩,k.Zd,k.Ev,k.Zc,k.ap4,k.ap5,k.ap6,λhm=>aJ (k.ni hm) hk.size⟩
theorem bX.ext{s:iK}(k:bX w pp h s)(hx:Ext w w'):bX w' pp h s:=
 k.keep (iM (F:=λ_=>False) hx) (λ_ _=>id) (λ_ _=>id)
theorem bX.Bq{s:iK}(k:bX w pp h s)(hb:jI pp h s b):b<w.heap.size:=by
 obtain⟨x1,a1,b1⟩:=k.left;obtain⟨x2,a2,b2⟩:=k.right;obtain⟨f,c1,c2⟩:=k.find;rcases hb with rfl|⟨h1,h2⟩|hb|hb|hb
 .exact bq k.box
 .exact k.ni (by omega)
 .exact(a1.lt b hb).2
 .exact(a2.lt b hb).2
 .exact(k.born.lt b hb).2
theorem bX.uI{s:iK}(k:bX w pp h s)(hb:s.S b):b<w.heap.size:=by
 obtain⟨x1,a1,b1⟩:=k.left;exact b1.2.1 b hb
theorem bX.c0{s:iK}(k:bX w pp h s):w.cell? ⟨pp,0,none⟩=some s.lv:=bI w pp 0 _ _ _ k.box
theorem bX.c1{s:iK}(k:bX w pp h s):w.cell? ⟨pp,1,none⟩=some s.rv:=bI w pp 1 _ _ _ k.box
theorem bX.c2{s:iK}(k:bX w pp h s):w.cell? ⟨pp,2,none⟩=some s.bv:=bI w pp 2 _ _ _ k.box
theorem bX.c3{s:iK}(k:bX w pp h s):w.cell? ⟨pp,3,none⟩=some (.map (some h)):=bI w pp 3 _ _ _ k.box
theorem bX.c4{s:iK}(k:bX w pp h s):w.cell? ⟨pp,4,none⟩=some (.map (some (h+1))):=bI w pp 4 _ _ _ k.box
theorem bX.c5{s:iK}(k:bX w pp h s):w.cell? ⟨pp,5,none⟩=some (.map (some (h+1+1))):=bI w pp 5 _ _ _ k.box
theorem jB.out{S:Nat->Prop}{w:World}{v:Value}{l:List Nat}(h:jB S w v l):Ints w v (bV l):=nN.out h
theorem bX.qM{s:iK}(k:bX w pp h s)(hi:i<s.D.length):
 ∃g cap a c,w.cell? ⟨pp,0,none⟩=some (.slice (some ⟨g,0,none⟩) s.D.length cap)/\s.D.length<=cap/\cap<=maxLen/\w.cell? ⟨g,i,none⟩=some (.slice a s.D[i].1.length c)/\jB s.S w (.slice a s.D[i].1.length c) s.D[i].1:=by
 obtain⟨xs,h1,h2⟩:=k.left;obtain⟨g,cap,e1,e2,e3,e4⟩:=gY h1 (by omega);have hi':i<(s.D.map (·.1)).length:=by simpa using hi
 obtain⟨a,c,q1,q2⟩:=h2.2.out i hi';rw[fT]at q1 q2;have q3:=take_at q1 (j:=0) (by omega);refine⟨g,cap,a,c,by rw[k.c0,e1],e2,e3,by rw[e4 i (by omega)];rw[jo]at q3;exact q3,h2.2.1,λw2 h3=>?_⟩;obtain⟨a',c',q1',q2'⟩:=h2.2.2 w2 h3 i hi';rw[fT]at q1' q2';rw[q1]at q1';simp only[iZ,gz,true_and,and_true]at q1';obtain⟨rfl,rfl⟩:=q1';exact q2'
theorem bX.oO{s:iK}(k:bX w pp h s)(hi:i<s.D.length):
 ∃g cap a c,w.cell? ⟨pp,1,none⟩=some (.slice (some ⟨g,0,none⟩) s.D.length cap)/\s.D.length<=cap/\cap<=maxLen/\w.cell? ⟨g,i,none⟩=some (.slice a s.D[i].2.length c)/\jB s.S w (.slice a s.D[i].2.length c) s.D[i].2:=by
 obtain⟨xs,h1,h2⟩:=k.right;obtain⟨g,cap,e1,e2,e3,e4⟩:=gY h1 (by omega);have hi':i<(s.D.map (·.2)).length:=by simpa using hi
 obtain⟨a,c,q1,q2⟩:=h2.2.out i hi';rw[fT]at q1 q2;have q3:=take_at q1 (j:=0) (by omega);refine⟨g,cap,a,c,by rw[k.c1,e1],e2,e3,by rw[e4 i (by omega)];rw[jo]at q3;exact q3,h2.2.1,λw2 h3=>?_⟩;obtain⟨a',c',q1',q2'⟩:=h2.2.2 w2 h3 i hi';rw[fT]at q1' q2';rw[q1]at q1';simp only[iZ,gz,true_and,and_true]at q1';obtain⟨rfl,rfl⟩:=q1';exact q2'
theorem bX.zq{s:iK}(k:bX w pp h s)(hi:i<s.D.length):
 ∃g cap,w.cell? ⟨pp,2,none⟩=some (.slice (some ⟨g,0,none⟩) s.D.length cap)/\s.D.length<=cap/\cap<=maxLen/\w.cell? ⟨g,i,none⟩=some (.int .i64 (aZ.born (vl s.D i):Int)):=by
 obtain⟨g,cap,h1,h2,h3,h4⟩:=gY k.born (by omega);refine⟨g,cap,by rw[k.c2,h1],h2,h3,?_⟩;rw[h4 i (by omega)];simp[hi]
theorem bX.empty(hb:w.heap[h+1+1+1+1+1]?=some (.cells #[.slice none 0 0,.slice none 0 0,.slice none 0 0,.map (some h),.map (some (h+1)),.map (some (h+1+1)),.map (some (h+1+1+1)),.map (some (h+1+1+1+1))] 156 (0,0)))
 (hm:∀m,h<=m->m<h+1+1+1+1+1->w.heap[m]?=some (.map #[] 0)):bX w (h+1+1+1+1+1) h ⟨.slice none 0 0,.slice none 0 0,.slice none 0 0,[],λ_=>False,λ_=>none⟩:=by
 have nb:∀b,(Value.slice none 0 0).ownBlock≠some b:=by intro b;simp[Value.ownBlock]
 refine⟨aZ.Good.nil,az _,⟨λ_ _ h=>by simp at h,λ_ _ h=>by simp at h,λ_ _ h=>by simp at h,λ_ _ _ h=>by simp at h⟩,hb,⟨[],⟨by simp,.inl ⟨rfl,rfl⟩⟩,Items.nil λ_ h=>h.elim⟩,⟨[],⟨by simp,.inl ⟨rfl,rfl⟩⟩,Items.nil λ_ h=>h.elim⟩,⟨by simp,.inl ⟨rfl,rfl⟩⟩,?_,?_,?_,by omega,?_,?_,?_,λ_ h=>h.elim,λ_ h=>h.elim,?_⟩
 .exact⟨_,fM.made _ _ (hm h (by omega) (by omega)),λi hi=>absurd hi (by simp),λ_ _ h=>by cases h⟩
 .exact⟨0,_,fM.made _ _ (hm (h+1) (by omega) (by omega)),λ_ _ h=>by cases h⟩
 .exact⟨0,_,fM.made _ _ (hm (h+1+1) (by omega) (by omega)),λ_=>rfl,λ_ _ h=>by cases h⟩
 .intro b hb;simp[nb]at hb
 .intro b hb;simp[nb]at hb
 .intro b hb;simp[nb]at hb
 .intro m h1;have:=bq hb;omega
structure jd(pp h:Nat)(s:iK)(w:World)(s':iK)(w':World):Prop where
 pool:bX w' pp h s'
 keep:dW (jI pp h s) w w'
 own:∀b,jI pp h s' b->jI pp h s b\/w.heap.size<=b
 old:∀b,s.S b->s'.S b
 lists:∀b,s'.S b->s.S b\/w.heap.size<=b
 more:∃E,s'.D=s.D++E
 known:∀i j,s.cn i=some j->s'.cn i=some j
theorem jd.refl{w w':World}{pp h:Nat}{s:iK}(k:bX w pp h s)(hx:Ext w w'):jd pp h s w s w':=⟨k.ext hx,iM hx,λ_ h=>.inl h,λ_ h=>h,λ_ h=>.inl h,⟨[],by simp⟩,λ_ _ h=>h⟩
theorem jd.trans{w1 w2 w3:World}{pp h:Nat}{s1 s2 s3:iK}(k:jd pp h s1 w1 s2 w2)(m:jd pp h s2 w2 s3 w3):jd pp h s1 w1 s3 w3:=by
 have hz:=k.keep.size;refine⟨m.pool,k.keep.trans m.keep (λx hx hi=>by rcases k.own x hi with h|h;exact h;omega),λx hx=>?_,λb hb=>m.old b (k.old b hb),λx hx=>?_,?_,λi j hi=>m.known i j (k.known i j hi)⟩
 .rcases m.own x hx with h1|h1
  .exact k.own x h1
  .exact .inr (by omega)
 .rcases m.lists x hx with h1|h1
  .exact k.lists x h1
  .exact .inr (by omega)
 .obtain⟨E,h1⟩:=k.more
  obtain⟨E',h2⟩:=m.more;exact⟨E++E',by rw[h2,h1,dh]⟩
theorem jd.ext{w1 w2 w3:World}{s1 s2:iK}(k:jd pp h s1 w1 s2 w2)(hx:Ext w2 w3):jd pp h s1 w1 s2 w3:=k.trans (jd.refl k.pool hx)
theorem jd.len{s s':iK}(k:jd pp h s w s' w'):s.D.length<=s'.D.length:=by obtain⟨E,h⟩:=k.more;rw[h];simp
theorem jd.vl{w w':World}{pp h:Nat}{s s':iK}(k:jd pp h s w s' w')(hw:aZ.WF s.D){i:Nat}(hi:i<s.D.length):vl s'.D i=vl s.D i:=by
 obtain⟨E,h⟩:=k.more;have hg:=k.pool.good.wf;rw[h]at hg ⊢;exact aZ.gV hw hg i hi
def Off(pp h:Nat)(s:iK)(w:World)(T:Nat->Prop):Prop:=∀b,T b->b<w.heap.size/\¬jI pp h s b
theorem Off.go{s s':iK}(o:Off pp h s w T)(k:jd pp h s w s' w'):Off pp h s' w' T:=λb hb=>by
 have h1:=o b hb;have hz:=k.keep.size;refine⟨by omega,λh2=>?_⟩;rcases k.own b h2 with h3|h3
 .exact h1.2 h3
 .omega
theorem Off.lists{s:iK}(k:bX w pp h s):Off pp h s w s.S:=λb hb=>⟨k.uI hb,k.ap5 b hb⟩
theorem Off.ext{s:iK}(o:Off pp h s w T)(hx:Ext w w'):Off pp h s w' T:=λb hb=>⟨aJ (o b hb).1 hx.size,(o b hb).2⟩
theorem nN.go{s s':iK}{A:World->Prop}(a:nN T A w)(o:Off pp h s w T)(k:jd pp h s w s' w'):nN T A w':=a.keep k.keep λb hb=>(o b hb).2
end
section
open aZ
variable {D E:cZ} {root i N:Nat} {left:Bool} {l q line B:List Nat}
structure iB(D:cZ)(root:Nat)(left:Bool)(l q line B:List Nat):Prop where
 nodup:line.Nodup
 lt:∀x,x∈line\/x∈q->x<D.length
 sub:∀x,x∈l->x∈line\/x∈q
 sound:∀x,x∈line\/x∈q->x∈l\/∃k,k<D.length/\lq D left root k/\x∈opt D left k
 kept:∀x,x∈B->x∈line/\∀y,y∈opt D (!left) x->¬lq D left root y
 Ct:B.Nodup
 done:∀x,x∈line->x∈B\/∃y,y∈opt D (!left) x/\lq D left root y/\∀z,z∈opt D left y->z∈line\/z∈q
 vW:B.length<=line.length
 sV:∀P:Nat->Prop,(∀i side x,P i->x∈opt D side i->P x)->(∀x,x∈l->P x)->∀x,x∈line\/x∈q->P x
theorem iB.start(hl:∀x,x∈l->x<D.length):iB D root left l l [] []:=
 ⟨List.nodup_nil,λx h=>by rcases h with h|h;cases h;exact hl x h,λx h=>.inr h,λx h=>by rcases h with h|h;cases h;exact .inl h,by simp,List.nodup_nil,by simp,ax _,λP _ hp x h=>by rcases h with h|h;cases h;exact hp x h⟩
theorem iB.len(h:iB D root left l q line B):line.length<=D.length:=iU h.nodup λx hx=>h.lt x (.inl hx)
theorem iB.skip(h:iB D root left l (q++[i]) line B)(hi:i∈line):iB D root left l q line B:=by
 have m:∀x,x∈line\/x∈q++[i]->x∈line\/x∈q:=λx hx=>by
  rcases hx with hx|hx
  .exact .inl hx
  .rcases aM.1 hx with hx|hx
   .exact .inr hx
   .simp at hx;subst hx;exact .inl hi
 have m2:∀x,x∈line\/x∈q->x∈line\/x∈q++[i]:=λx hx=>by
  rcases hx with hx|hx
  .exact .inl hx
  .exact .inr (aM.2 (.inl hx))
 exact⟨h.nodup,λx hx=>h.lt x (m2 x hx),λx hx=>m x (h.sub x hx),λx hx=>h.sound x (m2 x hx),h.kept,h.Ct,λx hx=>by
  rcases h.done x hx with a|⟨y,a,b,c⟩
  .exact .inl a
  .exact .inr ⟨y,a,b,λz hz=>m z (c z hz)⟩,h.vW,λP hc hp x hx=>h.sV P hc hp x (m2 x hx)⟩
theorem iB.keep(h:iB D root left l (q++[i]) line B)(hi:i ∉ line)(hn:∀y,y∈opt D (!left) i->¬lq D left root y):iB D root left l q (line++[i]) (B++[i]):=by
 have m:∀x,x∈line\/x∈q++[i]->x∈line++[i]\/x∈q:=λx hx=>by
  rcases hx with hx|hx
  .exact .inl (by simp[hx])
  .rcases aM.1 hx with hx|hx
   .exact .inr hx
   .exact .inl (aM.2 (.inr hx))
 have m2:∀x,x∈line++[i]\/x∈q->x∈line\/x∈q++[i]:=λx hx=>by
  rcases hx with hx|hx
  .rcases aM.1 hx with hx|hx
   .exact .inl hx
   .exact .inr (aM.2 (.inr hx))
  .exact .inr (aM.2 (.inl hx))
 refine⟨?_,λx hx=>h.lt x (m2 x hx),λx hx=>m x (h.sub x hx),λx hx=>h.sound x (m2 x hx),λx hx=>?_,?_,λx hx=>?_,by simp;exact h.vW,λP hc hp x hx=>h.sV P hc hp x (m2 x hx)⟩
 .rw[jq];exact⟨h.nodup,by simp,λa ha b hb=>by simp at hb;subst hb;rintro rfl;exact hi ha⟩
 .rcases aM.1 hx with hx|hx
  .exact⟨by simp[(h.kept x hx).1],(h.kept x hx).2⟩
  .simp at hx;subst hx;exact⟨by simp,hn⟩
 .rw[jq];exact⟨h.Ct,by simp,λa ha b hb=>by simp at hb;subst hb;rintro rfl;exact hi (h.kept a ha).1⟩
 .rcases aM.1 hx with hx|hx
  .rcases h.done x hx with a|⟨y,a,b,c⟩
   .exact .inl (by simp[a])
   .exact .inr ⟨y,a,b,λz hz=>m z (c z hz)⟩
  .exact .inl (aM.2 (.inr hx))
theorem iB.pass(hD:WF D){y:Nat}(h:iB D root left l (q++[i]) line B)(hi:i ∉ line)(hy:y∈opt D (!left) i)(hg:lq D left root y):iB D root left l (q++opt D left y) (line++[i]) B:=by
 have hil:i<D.length:=h.lt i (.inr (by simp));have hyl:y<D.length:=by have:=jU hD hy;omega
 have m:∀x,x∈line\/x∈q++[i]->x∈line++[i]\/x∈q++opt D left y:=λx hx=>by
  rcases hx with hx|hx
  .exact .inl (by simp[hx])
  .rcases aM.1 hx with hx|hx
   .exact .inr (by simp[hx])
   .exact .inl (aM.2 (.inr hx))
 have m2:∀x,x∈line++[i]\/x∈q++opt D left y->(x∈line\/x∈q++[i])\/x∈opt D left y:=λx hx=>by
  rcases hx with hx|hx
  .rcases aM.1 hx with hx|hx
   .exact .inl (.inl hx)
   .exact .inl (.inr (aM.2 (.inr hx)))
  .rcases aM.1 hx with hx|hx
   .exact .inl (.inr (aM.2 (.inl hx)))
   .exact .inr hx
 refine⟨?_,λx hx=>?_,λx hx=>m x (h.sub x hx),λx hx=>?_,λx hx=>⟨by simp[(h.kept x hx).1],(h.kept x hx).2⟩,h.Ct,λx hx=>?_,by simp;have:=h.vW;omega,λP hc hp x hx=>?_⟩
 .rw[jq];exact⟨h.nodup,by simp,λa ha b hb=>by simp at hb;subst hb;rintro rfl;exact hi ha⟩
 .rcases m2 x hx with hx|hx
  .exact h.lt x hx
  .have:=jU hD hx;omega
 .rcases m2 x hx with hx|hx
  .exact h.sound x hx
  .exact .inr ⟨y,hyl,hg,hx⟩
 .rcases aM.1 hx with hx|hx
  .rcases h.done x hx with a|⟨y,a,b,c⟩
   .exact .inl a
   .exact .inr ⟨y,a,b,λz hz=>m z (c z hz)⟩
  .simp at hx;subst hx
   exact .inr ⟨y,hy,hg,λz hz=>.inr (aM.2 (.inr hz))⟩
 .rcases m2 x hx with hx|hx
  .exact h.sV P hc hp x hx
  .exact hc _ _ _ (hc _ _ _ (h.sV P hc hp i (.inr (by simp))) hy) hx
theorem iB.open(h:iB D root left l [] line B):fK D root left l line B line.length:=by
 have m:∀x,x∈line\/x∈([]:List Nat)->x∈line:=λx hx=>by rcases hx with hx|hx;exact hx;cases hx
 exact⟨h.nodup,λx hx=>h.lt x (.inl hx),λx hx=>m x (h.sub x hx),λx hx=>h.sound x (.inl hx),h.kept,λj hj _=>by
  rcases h.done _ (aj hj)with a|⟨y,a,b,c⟩
  .exact .inl a
  .exact .inr ⟨y,a,b,λz hz=>m z (c z hz)⟩,h.vW,λP hc hp x hx=>h.sV P hc hp x (.inl hx)⟩
theorem Rq{side:Bool}:∀x,x∈opt D side i->i<D.length:=λx hx=>by
 unfold opt at hx;cases e:D[i]? with
 |none=>rw[e]at hx;simp at hx
 |some nd=>exact(cK.1 e).1
theorem uP(hD:WF D)(hE:WF (D++E)){j:Nat}(hi:i<D.length)(hj:j<D.length):lq (D++E) left i j↔lq D left i j:=by
 unfold lq;rw[gV hD hE i hi,gV hD hE j hj]
theorem fK.more(hD:WF D)(hE:WF (D++E))(hr:root<D.length)(h:fK D root left l line B i):fK (D++E) root left l line B i:=by
 refine⟨h.nodup,λx hx=>by have:=h.lt x hx;simp;omega,h.sub,λx hx=>?_,λx hx=>?_,λj hj hji=>?_,h.vW,λP hc hp x hx=>?_⟩
 .rcases h.sound x hx with a|⟨k,a,b,c⟩
  .exact .inl a
  .exact .inr ⟨k,by simp;omega,(uP hD hE hr a).2 b,by rw[nY a];exact c⟩
 .obtain⟨a,b⟩:=h.kept x hx
  refine⟨a,λy hy hg=>?_⟩;have hxl:=h.lt x a;rw[nY hxl]at hy;exact b y hy ((uP hD hE hr (by have:=jU hD hy;omega)).1 hg)
 .rcases h.done j hj hji with a|⟨y,a,b,c⟩
  .exact .inl a
  .have hjl:=h.lt _ (aj hj)
   have hyl:y<D.length:=(by have:=jU hD a;omega);exact .inr ⟨y,by rw[nY hjl];exact a,(uP hD hE hr hyl).2 b,λz hz=>c z (by rw[nY hyl]at hz;exact hz)⟩
 .exact h.sV P (λi side x hi hx'=>hc i side x hi (by rw[nY (Rq x hx')];exact hx')) hp x hx
theorem uX.more(hD:WF D)(hE:WF (D++E)){F:List Nat}(hB:∀x,x∈B->x<D.length)(h:uX D left B F):uX (D++E) left B F:=by
 refine⟨λx hx=>?_,λx hx=>?_⟩
 .obtain⟨a,b⟩:=h.1 x hx
  exact⟨a,λz hz hg=>b z hz ((uP hD hE (hB z hz) (hB x a)).1 hg)⟩
 .obtain⟨z,hz,hg⟩:=h.2 x hx
  exact⟨z,hz,(uP hD hE (hB z (h.1 z hz).1) (hB x hx)).2 hg⟩
theorem OG(hD:WF D){r uK BL uJ BR FL FR:List Nat}(hE:eU (.mk (l.map (vl D)) (r.map (vl D))) (vl D root))(cl:∀x,x∈l->Canon (vl D x))(cr:∀x,x∈r->Canon (vl D x))
 (iL:fK D root true l uK BL uK.length) (iR:fK D root false r uJ BR uJ.length) (mL:uX D true BL FL) (mR:uX D false BR FR):
 eU (.mk (FL.map (vl D)) (FR.map (vl D))) (vl D root)/\Canon (.mk (FL.map (vl D)) (FR.map (vl D))):=by
 have sR:∀x,x∈FR->¬Ge (vl D root) (vl D x):=by
  intro x hx;rcases iR.sound x (iR.kept x (mR.1 x hx).1).1 with h|⟨k,_,hk,h⟩
  .intro c
   exact lG (a:=.mk (l.map (vl D)) (r.map (vl D))) (ay.2 ⟨x,h,rfl⟩) (hE.nz.2 c)
  .exact MM (by simpa [lq]using hk) (DR hD h)
 have sL:∀x,x∈FL->¬Ge (vl D x) (vl D root):=by
  intro x hx;rcases iL.sound x (iL.kept x (mL.1 x hx).1).1 with h|⟨k,_,hk,h⟩
  .intro c
   exact ku (a:=.mk (l.map (vl D)) (r.map (vl D))) (ay.2 ⟨x,h,rfl⟩) (hE.lM.2 c)
  .exact MN (by simpa [lq]using hk) (DT hD h)
 have g1:Ge (.mk (FL.map (vl D)) (FR.map (vl D))) (.mk (l.map (vl D)) (r.map (vl D))):=by
  refine DJ (λg=>∃x,x∈uK/\g=vl D x) ?_ ?_ ?_
  .intro g hg
   obtain⟨x,hx,rfl⟩:=ay.1 (show g∈l.map (vl D) from hg);exact⟨_,⟨x,iL.sub x hx,rfl⟩,j6 _⟩
  .rintro _ ⟨x,hx,rfl⟩
   obtain⟨j,hj,rfl⟩:=aH.1 hx;rcases iL.done j hj hj with h|⟨y,hy,hg,hz⟩
   .obtain⟨z,hz,hg⟩:=mL.2 _ h
    exact .inl ⟨vl D z,ay.2 ⟨z,hz,rfl⟩,by simpa [lq]using hg⟩
   .refine .inr ⟨vl D y,DR hD (by simpa using hy),hE.nz.2 (by simpa [lq]using hg),λg hg'=>?_⟩
    obtain⟨z,hz',rfl⟩:=Nc hD hg';exact⟨z,hz z hz',rfl⟩
  .intro g hg
   obtain⟨x,hx,rfl⟩:=ay.1 (show g∈FR.map (vl D) from hg);intro c;exact sR x hx (hE.nz.1 c)
 have g2:Ge (.mk (l.map (vl D)) (r.map (vl D))) (.mk (FL.map (vl D)) (FR.map (vl D))):=by
  refine DI (λg=>∃x,x∈uJ/\g=vl D x) ?_ ?_ ?_
  .intro g hg
   obtain⟨x,hx,rfl⟩:=ay.1 (show g∈r.map (vl D) from hg);exact⟨_,⟨x,iR.sub x hx,rfl⟩,j6 _⟩
  .rintro _ ⟨x,hx,rfl⟩
   obtain⟨j,hj,rfl⟩:=aH.1 hx;rcases iR.done j hj hj with h|⟨y,hy,hg,hz⟩
   .obtain⟨z,hz,hg⟩:=mR.2 _ h
    exact .inl ⟨vl D z,ay.2 ⟨z,hz,rfl⟩,by simpa [lq]using hg⟩
   .refine .inr ⟨vl D y,DT hD (by simpa using hy),hE.lM.2 (by simpa [lq]using hg),λg hg'=>?_⟩
    obtain⟨z,hz',rfl⟩:=MS hD hg';exact⟨z,hz z hz',rfl⟩
  .intro g hg
   obtain⟨x,hx,rfl⟩:=ay.1 (show g∈FL.map (vl D) from hg);intro c;exact sL x hx (hE.lM.1 c)
 refine⟨eU.trans ⟨g1,g2⟩ hE,Canon.mk _ ⟨?_,?_,?_,?_⟩ ?_ ?_⟩
 .intro x y hx hy h
  obtain⟨a,ha,rfl⟩:=ay.1 hx;obtain⟨b,hb,rfl⟩:=ay.1 hy;rw[(mL.1 b hb).2 a (mL.1 a ha).1 (by simpa [lq]using h)];exact iQ _
 .intro x y hx hy h
  obtain⟨a,ha,rfl⟩:=ay.1 hx;obtain⟨b,hb,rfl⟩:=ay.1 hy;rw[(mR.1 a ha).2 b (mR.1 b hb).1 (by simpa [lq]using h)];exact iQ _
 .intro x hx y hy h
  obtain⟨a,ha,rfl⟩:=ay.1 hx;obtain⟨c,hc,rfl⟩:=MS hD hy;have:=(iL.kept a (mL.1 a ha).1).2 c (by simpa using hc);simp[lq]at this;exact this (hE.nz.1 (bZ _ _ _ g2 h))
 .intro x hx y hy h
  obtain⟨a,ha,rfl⟩:=ay.1 hx;obtain⟨c,hc,rfl⟩:=Nc hD hy;have:=(iR.kept a (mR.1 a ha).1).2 c (by simpa using hc);simp[lq]at this;exact this (hE.lM.1 (bZ _ _ _ h g1))
 .intro x hx
  obtain⟨a,ha,rfl⟩:=ay.1 hx;exact lI hD iL cl a (iL.kept a (mL.1 a ha).1).1
 .intro x hx
  obtain⟨a,ha,rfl⟩:=ay.1 hx;exact lI hD iR cr a (iR.kept a (mR.1 a ha).1).1
def miss(N:Nat)(cn:Nat->Option Nat):Nat:=((List.range N).filter λx=>(cn x).isNone).length
theorem Wy{f:Nat}{cn Am:Nat->Option Nat}(h:∀x,x<N->(cn x).isSome->(Am x).isSome)(hf:f<N)(h1:cn f=none)(h2:(Am f).isSome):miss N Am+1<=miss N cn:=by
 unfold miss;have key:∀l:List Nat,(∀x,x∈l->x<N)->(f∈l->(l.filter λx=>(Am x).isNone).length+1<=(l.filter λx=>(cn x).isNone).length)/\(l.filter λx=>(Am x).isNone).length<=(l.filter λx=>(cn x).isNone).length:=by
  intro l
  induction l with
  |nil=>intro _;simp
  |cons x l ih=>
   intro hl;obtain⟨h3,h4⟩:=ih λy hy=>hl y (by simp[hy])
   have hx:=h x (hl x (by simp));simp only[List.filter_cons,dZ];by_cases e:f=x
   .subst e
    have:(Am f).isNone=false:=by cases e:Am f with|none=>rw[e]at h2;cases h2|some _=>rfl
    rw[this,h1];simp;omega
   .have hm:(f=x\/f∈l)↔f∈l:=by simp[e]
    rw[hm];cases e1:cn x with
    |none=>split <;> simp <;> constructor <;> intros <;> first|omega|(have:=h3 (by assumption);omega)
    |some j=>
     rw[e1]at hx;have h5:=hx rfl;have:(Am x).isNone=false:=by cases e:Am x with|none=>rw[e]at h5;cases h5|some _=>rfl
     simp[this];exact⟨λh=>by have:=h3 h;omega,h4⟩
 exact(key _ λx hx=>dJ.1 hx).1 (dJ.2 hf)
theorem DY{M:Nat}(h:N<=M)(cn:Nat->Option Nat):miss N cn<=miss M cn:=by
 unfold miss;obtain⟨k,rfl⟩:∃k,M=N+k:=⟨M-N,by omega⟩;rw[List.range_add,jF,aK];omega
end
