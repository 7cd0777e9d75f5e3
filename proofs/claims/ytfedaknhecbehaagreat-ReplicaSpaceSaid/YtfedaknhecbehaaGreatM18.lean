/- Lemmas of the proof, with their conditions. -/
import Derived.Test.YtfedaknhecbehaaGreatM17
import Derived.Test.YtfedaknhecbehaaGreatM13
namespace Go.Proofs.YtfedaknhecbehaaGreat
open Tryz
variable {w W W':World} {base l B d a N B3 B4 B6:Nat} {v:Value} {t:TypeId} {F pre:List Nat} {D:PDisk} {bs:List UInt8}
set_option linter.all false
set_option maxHeartbeats 4000000
set_option maxRecDepth 100000
section
open Go.RowKit Go.Shelf
attribute [local go_sem] AW
theorem JT {e:TypeId} {n s:Nat} {xs:List Value} (h:w.ownsRow base e s v n xs):∀ g∈v.ownBlock.toList,∀ o,w.heap[g]? = some o->o.isCells=true:=by
 intro g a o b;rcases h.2 with⟨rfl,_⟩ | ⟨c,cap,f,rfl,_,d,_⟩
 . simp[Value.ownBlock] at a
 obtain rfl:c=g:=by simpa [Value.ownBlock,eq_comm] using a
 rw[d] at b;cases b;rfl
theorem Keep.fromCells {l:List Nat} (h:Keep l W W') (c:∀ g∈l,∀ o,W.heap[g]? = some o->o.isCells=true) (B:Nat):KeepsFrom B W W':=
 ⟨h.size,fun k o _ a b=>(h.block k (AR.1 a).1 (fun d=>by rw[c k d o a] at b;cases b)).trans a⟩
theorem JA {l:List Nat} (h:Boxed W B t v) (a:Keep l W W') (b:B∉l):Boxed W' B t v:=(a.block B h.lt b).trans h
theorem ZC {o:Obj} (b:Obj) (h:Boxed W B t v) (a:W.heap[l]? = some o) (c:o.isCells=false):Boxed (W.putObj l b) B t v:=by
 refine(World.putObj_heap_other ?_).trans h;rintro rfl;rw[show W.heap[B]? = _ from h] at a;cases a;cases c
theorem Keep.putObj {l:List Nat} (h:Keep l w W) {g:Nat} (d:w.heap.size<=g) (a:Obj):Keep l w (W.putObj g a):=
 ⟨h.os,h.tape,h.output,by rw[World.putObj_size];exact h.size,fun k b c=>(World.putObj_heap_other Z).trans (h.block k b c)⟩
theorem XH {b:Nat} {cs:Array Value} {o:Obj} (c:Obj) (h:Blk W b t cs) (a:W.heap[l]? = some o) (d:o.isCells=false):Blk (W.putObj l c) b t cs:=by
 refine(World.putObj_heap_other ?_).trans h;rintro rfl;rw[show W.heap[b]? = _ from h] at a;cases a;cases d
theorem DiskAt.putObj {o:Obj} (h:DiskAt W base d F D) (a:Obj) (b:W.heap[l]? = some o) (c:o.isCells=false):DiskAt (W.putObj l a) base d F D:=by
 obtain⟨S,N,H,U,h⟩:=h;exact⟨S,N,H,U,XH a h.blk b c,ownsRow_putObj h.safe a b c,ownsRow_putObj h.now a b c,ownsRow_putObj h.held a b c,ownsRow_putObj h.flt a b c,h.ne,h.foot,h.base,h.pos,h.few,h.ats,h.acts⟩
theorem DiskAt.cells (h:DiskAt W base d F D):∀ g∈F,∀ o,W.heap[g]? = some o->o.isCells=true:=by
 obtain⟨S,N,H,U,h⟩:=h;intro g a o b;rw[h.foot] at a;simp only[AL,AD] at a;rcases a with rfl | a | a | a | a
 . rw[show W.heap[_]? = _ from h.blk] at b;cases b;rfl
 . exact JT h.safe g a o b
 . exact JT h.now g a o b
 . exact JT h.held g a o b
 exact JT h.flt g a o b
def Qe (D:PDisk) (a:Nat) (bs:List UInt8) (k:Nat):PDisk:=(List.range k).foldl (fun D j=>D.write (a+j) (seg 64 bs j)) D
theorem Vg (D:PDisk) (a:Nat) (bs:List UInt8) (k:Nat):Qe D a bs (k+1)=(Qe D a bs k).write (a+k) (seg 64 bs k):=by simp[Qe,Bq]
theorem QP (D:PDisk) (a:Nat) (bs:List UInt8) (k:Nat):(Qe D a bs k).n=D.n/\(Qe D a bs k).off=D.off/\(Qe D a bs k).fuse=D.fuse/\(Qe D a bs k).acts=D.acts+k/\(Qe D a bs k).faults=D.faults/\(Qe D a bs k).safe=D.safe:=by
 induction k with
 | zero=>exact⟨rfl,rfl,rfl,rfl,rfl,rfl⟩
 | succ k ih=>rw[Vg];obtain⟨b,c,d,e,f,g⟩:=ih;exact⟨b,c,d,by simp[PDisk.write,e];omega,f,g⟩
structure KLay (w:World) (base d:Nat) (F:List Nat) (D:PDisk) (a:Nat) (bs:List UInt8) (N B3 B4 B6:Nat) (pre:List Nat) (W:World):Prop where
 disk:∃ F',DiskAt W base d F' (Qe D a bs pre.length)/\(∀ x∈F',x∈F\/N<=x)
 size:N<=W.heap.size
 b3:Boxed W B3 36 (.pointer (some d))
 b4:Boxed W B4 3 (.int .i64 ((a+pre.length:Nat)))
 b6:Boxed W B6 32 (.int .i64 0)
 keep:Keep F w W
theorem KLay.kept {A B:World} (h:KLay w base d F D a bs N B3 B4 B6 pre A) (b:kz A B):KLay w base d F D a bs N B3 B4 B6 pre B:=by
 obtain⟨c,e,f⟩:=h.disk;exact⟨⟨c,e.kO b,f⟩,AB h.size b.size,JA h.b3 b sq,JA h.b4 b sq,JA h.b6 b sq,h.keep.tO b⟩
theorem KLay.turned {o b:Obj} (h:KLay w base d F D a bs N B3 B4 B6 pre W) (f:w.heap.size<=l) (c:W.heap[l]? = some o) (e:o.isCells=false):KLay w base d F D a bs N B3 B4 B6 pre (W.putObj l b):=by
 obtain⟨g,i,j⟩:=h.disk;exact⟨⟨g,i.putObj b c e,j⟩,by rw[World.putObj_size];exact h.size,ZC b h.b3 c e,ZC b h.b4 c e,ZC b h.b6 c e,h.keep.putObj f b⟩
theorem YBT (h:DiskAt w base d F D) (au:D.off=false) (av:D.fuse = -1) (bh:base<=w.heap.size) (a q g o c:Nat) (bs:List UInt8) (hq:1<=q) (aw:q<=1000) (ax:bs.length=64*q) (hc:64*q<=c)
 (ha:a+q<=D.n) (bi:D.acts+q<=1000000000) (m:Rd w (some (aq g o)) (64*q) (bys bs)) (hg:g<w.heap.size) (ay:g∉F) :
 Calls prog 228 #[pq d,a,.slice (some (aq g o)) (64*q) c] w fun e w'=>e=.returned zz/\∃ z,DiskAt w' base d z (Qe D a bs q)/\Keep F w w'/\Grow w F z:=by
 refine(AQ (n:=3)).1 ?_;refine callsIn_of_wp_marks func228 rfl trivial ?_ rfl;simp only[ntmps228,PL,Nat.reduceAdd,Nat.reduceSub];gi_wp2_with (refine⟨trivial,?_⟩;refine(YAH _ _ _ rfl).mono ?_;rintro e w' ⟨rfl,rfl⟩);obtain⟨v,hv⟩:=ex (Value.slice (some (aq g o)) (64*q) c);rw[<- hv];have ah:=ZB hv;obtain⟨w1,M⟩:=ex (w.alloc (.cells #[pq d] 36));obtain⟨O,P⟩:=ex (w1.alloc (.cells #[ii a] 3));obtain⟨Q,R⟩:=ex (O.alloc (.cells #[zz] 32));obtain⟨T,V⟩:=ex (Q.alloc (.cells #[v] 66));obtain⟨t,X⟩:=ex (T.alloc (.cells #[ii 64] 3));rw[<- M,<- P,<- R,<- V,<- X];have s1:w1.heap.size=w.heap.size+1:=by rw[M,AM]
 have s2:O.heap.size=w.heap.size+2:=by rw[P,AM,s1]
 have s3:Q.heap.size=w.heap.size+3:=by rw[R,AM,s2]
 have s4:T.heap.size=w.heap.size+4:=by rw[V,AM,s3]
 have s5:t.heap.size=w.heap.size+5:=by rw[X,AM,s4]
 have k1:kz w w1:=by rw[M];exact kq.alloc _
 have k2:kz w1 O:=by rw[P];exact kq.alloc _
 have k3:kz O Q:=by rw[R];exact kq.alloc _
 have Y:kz Q T:=by rw[V];exact kq.alloc _
 have I:kz T t:=by rw[X];exact kq.alloc _
 have kw:kz w t:=(((k1.tO k2).tO k3).tO Y).tO I;have b3:Boxed t w.heap.size 36 (.pointer (some d)):=JA (by rw[M];exact Boxed.new w _ _) (((k2.tO k3).tO Y).tO I) sq;have b4:Boxed t (w.heap.size+1) 3 (.int .i64 a):=JA (by rw[P,show w.heap.size+1=w1.heap.size from Z];exact Boxed.new w1 _ _) ((k3.tO Y).tO I) sq;have b6:Boxed t (w.heap.size+1+1) 32 (.int .i64 0):=JA (by rw[R,show w.heap.size+1+1=O.heap.size from Z];exact Boxed.new O _ _) (Y.tO I) sq;have aa:Boxed t (w.heap.size+1+1+1) 66 v:=JA (by rw[V,show w.heap.size+1+1+1=Q.heap.size from Z];exact Boxed.new Q _ _) I sq;have c2:Boxed t (w.heap.size+1+1+1+1) 3 (.int .i64 64):=by rw[X,show w.heap.size+1+1+1+1=T.heap.size from Z];exact Boxed.new T _ _
 have ai:=h.lt
 have h0:KLay w base d F D a bs t.heap.size w.heap.size (w.heap.size+1) (w.heap.size+1+1) [] t:=
  ⟨⟨F,h.kO kw,fun x i=>.inl i⟩,AG _,b3,b4,b6,kw.zero⟩
 have a4:=Yo 2 (b1:=(w.heap.size+1+1+1)) g o q c (w:=t) aw hc (by rw[<- ZA ah];exact aa) c2 Z;have ab:t.heap[g]? = w.heap[g]? := kw.block g hg sq;rw[<- ZA ah] at a4;clear hv
 refine ZU (n:=3) (gf:=390) (lb:=#[pq (w.heap.size+1+1+1),pq (w.heap.size+1+1+1+1)]) rfl (enters_of func390 (by kernel_rfl) rfl)
  a4
  (fun A B C h k=>⟨k.1.trans h.1,fun m=>k.2.1 (h.2.1 m),fun m=>k.2.2 (h.2.2 m)⟩)
  (fun W l o a0 hl a1 E=>⟨World.putObj_heap_other Z,fun m=>ZC a0 m a1 E,fun m=>ZC a0 m a1 E⟩)
  (fun _=>rfl) (KLay w base d F D a bs t.heap.size w.heap.size (w.heap.size+1) (w.heap.size+1+1)) (fun s A B h hk=>h.kept hk) (fun s W l o a0 h hl a1 E=>h.turned Z a1 E)
  (fun pre x W l o a0 h hl a1 E=>⟨h.1,h.2.1,(World.putObj_heap_other Z).trans h.2.2⟩) h0
  (fun x=>{ tmps:=#[pq d,ii a,v,pq w.heap.size,pq (w.heap.size+1),undef,pq (w.heap.size+1+1),
    .slice (some (aq g (o+64*x))) 64 64,undef,v,.func (.func 390) #[] #[pq (w.heap.size+1+1+1),pq (w.heap.size+1+1+1+1)],.slice (some (aq g (o+64*x))) 64 64,
    undef,undef,undef,undef,undef,undef,undef,undef,undef],defers:=[] }) ?assign ?body ?done
 case assign=>
  rintro l x W K G;dsimp only[VAS] at G ⊢
  gi_wp2
  exact G
 case body=>
  rintro l pre x W f ⟨i,bj,aj⟩;obtain⟨z,a5,J⟩:=f.disk;have L:∀ B,w.heap.size<=B->B<t.heap.size->B∉z:=fun B h1 h2 r=>(J B r).elim (fun r=>by have:=ai B r;omega) Z;have az:=L w.heap.size Z Z;have ak:=L (w.heap.size+1) Z Z;have ac:=L (w.heap.size+1+1) Z Z;have b0:=L (w.heap.size+1+1+1) Z Z;have b2:=L (w.heap.size+1+1+1+1) Z Z;have b5:=a5.cells;have b7:=f.size;have a6:=QP D a bs pre.length;have bk:=f.keep.size;have al:g∉z:=fun r=>(J g r).elim ay Z;have am:(seg 64 bs x).length=64:=length_seg 64 bs x Z
  have b8:Rd W (some (aq g (o+64*x))) 64 (bys (seg 64 bs x)):=by
   refine⟨by simp[am],fun _=>⟨g,o+64*x,rfl,Z,fun j u hu=>?_⟩⟩;have hj:j<64:=by have:=(BS.1 hu).1;simpa [am] using this
   obtain⟨bl,a0,he,_,b9⟩:=m.2 Z;cases he;have h1:=b9 (64*x+j) u (by rw[<- hu,<- QAF,seg_get _ _ _ _ hj,CM]);rw[show o+64*x+j=o+(64*x+j) from Z];exact(B9 (w:=w) (aj.trans ab)).trans h1
  have ad:=AQ (n:=0).2 (Zt a5 (a6.2.1.trans au) (a6.2.2.1.trans av) (by rw[a6.2.2.2.1];omega) (a+x) (by rw[a6.1];omega) 64 _ b8 (fun bm ba=>by cases ba;exact al) Z);have bn:=f.b3.cell;have an:=f.b4.cell;rw[<- i] at an;have bo:D.n<=4096:=by obtain⟨S,N,bp,U,hh⟩:=h;exact hh.few
  obtain⟨y,hy⟩:=ex (a+x);rw[<- hy] at ad an;have bq:((y:Nat):Int)<=4096:=Z
  have ae:=ZB hy;clear hy;have a7:=ZB i;have a8:=ZB f;clear h0 b3 b4 b6 aa c2 kw k1 k2 k3 Y I M P R V X a4 i f ab aj s1 s2 s3 s4 ax;gi_wp2_with (refine⟨trivial,?_⟩;refine ad.mono ?_;clear ad;rintro e af ⟨rfl,ao,a2,a3,ap⟩;(have f:=ZA a8);(have bb:=(JA f.b3 a3 az));(have a9:=(JA f.b4 a3 ak));(have bc:=JA f.b6 a3 ac);(rw[<- ZA a7,<- ZA ae] at a9);(have br:=a9.cell);(have bt:=a9.frozen));have f:=ZA a8;have G:Keep ((w.heap.size+1) :: z) W (af.setCell ⟨w.heap.size+1,0,none⟩ (.int .i64 ((y:Nat)+1))):=(a3.sub (fun x i=>Ak _ i)).setCell (p:=⟨w.heap.size+1,0,none⟩) (.inl CS) _;have H:Keep [w.heap.size+1] af (af.setCell ⟨w.heap.size+1,0,none⟩ (.int .i64 ((y:Nat)+1))):=kq.setCell (.inl sq) _;have bu:=f.b4.lt;have bd:w.heap.size+1∉ao:=fun r=>(ap _ r).elim ak Z;refine⟨G.fromCells ?_ _,⟨?_,fun m=>JA m G (by simp only[AL,DK];exact⟨Z,b0⟩),fun m=>JA m G (by simp only[AL,DK];exact⟨Z,b2⟩)⟩,⟨⟨ao,?_,fun x i=>?_⟩,AB b7 G.size,?_,?_,?_,?_⟩⟩
  . intro b m o E
    rcases AL.1 m with rfl | m
    . rw[show W.heap[_]? = _ from f.b4] at E;cases E;rfl
    exact b5 b m o E
  . exact G.block g Z (by simp only[AL,DK];exact⟨Z,al⟩)
  . rw[AE,Af,Vg,<- ZA a7]
    rw[<- ZA a7] at a2;rw[<- ZA ae];exact a2.keep H (fun x i r=>by simp at r;subst r;exact bd i)
  . rcases ap x i with i | i
    . exact J x i
    exact .inr Z
  . exact JA bb H sq
  . have:=a9.set (.int .i64 ((y:Nat)+1))
    rw[AE,Af,<- BY,<- ZA a7,<- ZA ae];exact this
  . exact JA bc H sq
  exact(f.keep.trans a3 (fun x i=>(J x i).imp id Z)).trans H iq
 case done=>
  intro D' xs W bv bf f ar;subst bf;obtain⟨z,a5,J⟩:=f.disk;have L:∀ B,w.heap.size<=B->B<t.heap.size->B∉z:=fun B h1 h2 r=>(J B r).elim (fun r=>by have:=ai B r;omega) Z;have ac:=L (w.heap.size+1+1) Z Z;have bw:=f.b6.cell;have bx:=f.b6.frozen;have a8:=ZB f;clear h0 b3 b4 b6 aa c2 kw k1 k2 k3 Y I M P R V X a4 f ab
  gi_wp2
  have f:=ZA a8;have H:Keep [w.heap.size+1+1] W (W.setCell ⟨w.heap.size+1+1,0,none⟩ (.int .i64 0)):=kq.sc (w.heap.size+1+1) 0;have ag:(W.setCell ⟨w.heap.size+1+1,0,none⟩ (.int .i64 0)).heap[D']? = some (.deferred (some [])):=(H.block D' (AR.1 ar).1 (by simp;omega)).trans ar;have q6:=(ZC (.deferred none) (f.b6.set (.int .i64 0)) ag rfl).cell;have a2:=(a5.keep H (fun x i r=>by simp at r;subst r;exact ac i)).putObj (.deferred none) ag rfl;have bg:=(f.keep.trans H iq).putObj (g:=D') Z (.deferred none);rw[List.length_range] at a2;refine⟨sq,.inl ⟨_,_,rfl,run_takeDeferred ag,?_⟩⟩;refine⟨.int .i64 0,?_,rfl,z,a2,bg,fun x i=>(J x i).imp id Z⟩;simp[results,results228,go_sem,q6]
end
section
open Go.RowKit
variable {P:Program}