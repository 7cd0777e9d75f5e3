/- Lemmas of the proof, with their conditions. -/
import Derived.Test.YtfedaknhecbehaaGreatL18
import Derived.Test.YtfedaknhecbehaaGreatL14
namespace Go.Proofs.YtfedaknhecbehaaGreat
open Tryz
variable {w W W':World} {base n l B d a N B3 B4 B6:Nat} {v:Value} {t:TypeId} {F pre:List Nat} {D:PDisk} {bs:List UInt8}
set_option linter.all false
set_option maxHeartbeats 4000000
set_option maxRecDepth 100000
section
open Go.RowKit Go.Shelf
attribute [local go_sem] AZ
theorem KR {e:TypeId} {s:Nat} {xs:List Value} (h:w.ownsRow base e s v n xs):∀ g∈v.ownBlock.toList,∀ o,w.heap[g]? = some o->o.isCells=true:=by
 intro g a o b;rcases h.2 with⟨rfl,_⟩ | ⟨c,cap,f,rfl,_,d,_⟩
 . simp[Value.ownBlock] at a
 obtain rfl:c=g:=by simpa [Value.ownBlock,eq_comm] using a
 rw[d] at b;cases b;rfl
theorem Keep.fromCells {l:List Nat} (h:Keep l W W') (c:∀ g∈l,∀ o,W.heap[g]? = some o->o.isCells=true) (B:Nat):KeepsFrom B W W':=
 ⟨h.size,fun k o _ a b=>(h.block k (AI.1 a).1 (fun d=>by rw[c k d o a] at b;cases b)).trans a⟩
theorem KA {l:List Nat} (h:Boxed W B t v) (a:Keep l W W') (b:B∉l):Boxed W' B t v:=(a.block B h.lt b).trans h
theorem JC {o:Obj} (b:Obj) (h:Boxed W B t v) (a:W.heap[l]? = some o) (c:o.isCells=false):Boxed (W.putObj l b) B t v:=by
 refine(World.putObj_heap_other ?_).trans h;rintro rfl;rw[show W.heap[B]? = _ from h] at a;cases a;cases c
theorem Keep.putObj {l:List Nat} (h:Keep l w W) {g:Nat} (d:w.heap.size<=g) (a:Obj):Keep l w (W.putObj g a):=
 ⟨h.os,h.tape,h.output,by rw[World.putObj_size];exact h.size,fun k b c=>(World.putObj_heap_other Z).trans (h.block k b c)⟩
theorem YF {b:Nat} {cs:Array Value} {o:Obj} (c:Obj) (h:Blk W b t cs) (a:W.heap[l]? = some o) (d:o.isCells=false):Blk (W.putObj l c) b t cs:=by
 refine(World.putObj_heap_other ?_).trans h;rintro rfl;rw[show W.heap[b]? = _ from h] at a;cases a;cases d
theorem DiskAt.putObj {o:Obj} (h:DiskAt W base d F D) (a:Obj) (b:W.heap[l]? = some o) (c:o.isCells=false):DiskAt (W.putObj l a) base d F D:=by
 obtain⟨S,N,H,U,h⟩:=h;exact⟨S,N,H,U,YF a h.blk b c,ownsRow_putObj h.safe a b c,ownsRow_putObj h.now a b c,ownsRow_putObj h.held a b c,ownsRow_putObj h.flt a b c,h.ne,h.foot,h.base,h.pos,h.few,h.ats,h.acts⟩
theorem DiskAt.cells (h:DiskAt W base d F D):∀ g∈F,∀ o,W.heap[g]? = some o->o.isCells=true:=by
 obtain⟨S,N,H,U,h⟩:=h;intro g a o b;rw[h.foot] at a;simp only[AM,AD] at a;rcases a with rfl | a | a | a | a
 . rw[show W.heap[_]? = _ from h.blk] at b;cases b;rfl
 . exact KR h.safe g a o b
 . exact KR h.now g a o b
 . exact KR h.held g a o b
 exact KR h.flt g a o b
def Ye (D:PDisk) (a:Nat) (bs:List UInt8) (k:Nat):PDisk:=(List.range k).foldl (fun D j=>D.write (a+j) (seg 64 bs j)) D
theorem Vi (D:PDisk) (a:Nat) (bs:List UInt8) (k:Nat):Ye D a bs (k+1)=(Ye D a bs k).write (a+k) (seg 64 bs k):=by simp[Ye,CF]
theorem YN (D:PDisk) (a:Nat) (bs:List UInt8) (k:Nat):(Ye D a bs k).n=D.n/\(Ye D a bs k).off=D.off/\(Ye D a bs k).fuse=D.fuse/\(Ye D a bs k).acts=D.acts+k/\(Ye D a bs k).faults=D.faults/\(Ye D a bs k).safe=D.safe:=by
 induction k with
 | zero=>exact⟨rfl,rfl,rfl,rfl,rfl,rfl⟩
 | succ k ih=>rw[Vi];obtain⟨b,c,d,e,f,g⟩:=ih;exact⟨b,c,d,by simp[PDisk.write,e];omega,f,g⟩
structure KLay (w:World) (base d:Nat) (F:List Nat) (D:PDisk) (a:Nat) (bs:List UInt8) (N B3 B4 B6:Nat) (pre:List Nat) (W:World):Prop where
 disk:∃ F',DiskAt W base d F' (Ye D a bs pre.length)/\(∀ x∈F',x∈F\/N<=x)
 size:N<=W.heap.size
 b3:Boxed W B3 36 (.pointer (some d))
 b4:Boxed W B4 3 (.int .i64 ((a+pre.length:Nat)))
 b6:Boxed W B6 32 (.int .i64 0)
 keep:Keep F w W
theorem KLay.kept {A B:World} (h:KLay w base d F D a bs N B3 B4 B6 pre A) (b:kz A B):KLay w base d F D a bs N B3 B4 B6 pre B:=by
 obtain⟨F',c,e⟩:=h.disk;exact⟨⟨F',c.kO b,e⟩,AA h.size b.size,KA h.b3 b sq,KA h.b4 b sq,KA h.b6 b sq,h.keep.tO b⟩
theorem KLay.turned {o b:Obj} (h:KLay w base d F D a bs N B3 B4 B6 pre W) (f:w.heap.size<=l) (c:W.heap[l]? = some o) (e:o.isCells=false):KLay w base d F D a bs N B3 B4 B6 pre (W.putObj l b):=by
 obtain⟨F',g,i⟩:=h.disk;exact⟨⟨F',g.putObj b c e,i⟩,by rw[World.putObj_size];exact h.size,JC b h.b3 c e,JC b h.b4 c e,JC b h.b6 c e,h.keep.putObj f b⟩
theorem JBZ (h:DiskAt w base d F D) (au:D.off=false) (av:D.fuse = -1) (bh:base<=w.heap.size) (a q g o c:Nat) (bs:List UInt8) (hq:1<=q) (aw:q<=1000) (ax:bs.length=64*q) (hc:64*q<=c)
 (ha:a+q<=D.n) (bi:D.acts+q<=1000000000) (m:Rd w (some (aq g o)) (64*q) (bys bs)) (hg:g<w.heap.size) (ay:g∉F) :
 Calls prog 228 #[pq d,a,.slice (some (aq g o)) (64*q) c] w fun e w'=>e=.returned zz/\∃ F',DiskAt w' base d F' (Ye D a bs q)/\Keep F w w'/\Grow w F F':=by
 refine(AR (n:=3)).1 ?_;refine callsIn_of_wp_marks func228 rfl trivial ?_ rfl;simp only[ntmps228,PL,Nat.reduceAdd,Nat.reduceSub];gi_wp2_with (refine⟨trivial,?_⟩;refine(KAL _ _ _ rfl).mono ?_;rintro e w' ⟨rfl,rfl⟩);obtain⟨v,hv⟩:=ex (Value.slice (some (aq g o)) (64*q) c);rw[<- hv];have ah:=JB hv;obtain⟨w1,L⟩:=ex (w.alloc (.cells #[pq d] 36));obtain⟨M,O⟩:=ex (w1.alloc (.cells #[ii a] 3));obtain⟨P,Q⟩:=ex (M.alloc (.cells #[zz] 32));obtain⟨R,T⟩:=ex (P.alloc (.cells #[v] 66));obtain⟨t,V⟩:=ex (R.alloc (.cells #[ii 64] 3));rw[<- L,<- O,<- Q,<- T,<- V];have s1:w1.heap.size=w.heap.size+1:=by rw[L,AN]
 have s2:M.heap.size=w.heap.size+2:=by rw[O,AN,s1]
 have s3:P.heap.size=w.heap.size+3:=by rw[Q,AN,s2]
 have s4:R.heap.size=w.heap.size+4:=by rw[T,AN,s3]
 have s5:t.heap.size=w.heap.size+5:=by rw[V,AN,s4]
 have k1:kz w w1:=by rw[L];exact kq.alloc _
 have k2:kz w1 M:=by rw[O];exact kq.alloc _
 have Y:kz M P:=by rw[Q];exact kq.alloc _
 have X:kz P R:=by rw[T];exact kq.alloc _
 have H:kz R t:=by rw[V];exact kq.alloc _
 have kw:kz w t:=(((k1.tO k2).tO Y).tO X).tO H;have b3:Boxed t w.heap.size 36 (.pointer (some d)):=KA (by rw[L];exact Boxed.new w _ _) (((k2.tO Y).tO X).tO H) sq;have b4:Boxed t (w.heap.size+1) 3 (.int .i64 a):=KA (by rw[O,show w.heap.size+1=w1.heap.size from Z];exact Boxed.new w1 _ _) ((Y.tO X).tO H) sq;have b6:Boxed t (w.heap.size+1+1) 32 (.int .i64 0):=KA (by rw[Q,show w.heap.size+1+1=M.heap.size from Z];exact Boxed.new M _ _) (X.tO H) sq;have aa:Boxed t (w.heap.size+1+1+1) 66 v:=KA (by rw[T,show w.heap.size+1+1+1=P.heap.size from Z];exact Boxed.new P _ _) H sq;have c2:Boxed t (w.heap.size+1+1+1+1) 3 (.int .i64 64):=by rw[V,show w.heap.size+1+1+1+1=R.heap.size from Z];exact Boxed.new R _ _
 have ai:=h.lt
 have h0:KLay w base d F D a bs t.heap.size w.heap.size (w.heap.size+1) (w.heap.size+1+1) [] t:=
  ⟨⟨F,h.kO kw,fun x i=>.inl i⟩,AG _,b3,b4,b6,kw.zero⟩
 have a4:=Ys 2 (b1:=(w.heap.size+1+1+1)) g o q c (w:=t) aw hc (by rw[<- JA ah];exact aa) c2 Z;have ab:t.heap[g]? = w.heap[g]? := kw.block g hg sq;rw[<- JA ah] at a4;clear hv
 refine ZV (n:=3) (gf:=390) (lb:=#[pq (w.heap.size+1+1+1),pq (w.heap.size+1+1+1+1)]) rfl (enters_of func390 (by kernel_rfl) rfl)
  a4
  (fun A B C h k=>⟨k.1.trans h.1,fun m=>k.2.1 (h.2.1 m),fun m=>k.2.2 (h.2.2 m)⟩)
  (fun W l o a0 hl a1 z=>⟨World.putObj_heap_other Z,fun m=>JC a0 m a1 z,fun m=>JC a0 m a1 z⟩)
  (fun _=>rfl) (KLay w base d F D a bs t.heap.size w.heap.size (w.heap.size+1) (w.heap.size+1+1)) (fun s A B h hk=>h.kept hk) (fun s W l o a0 h hl a1 z=>h.turned Z a1 z)
  (fun pre x W l o a0 h hl a1 z=>⟨h.1,h.2.1,(World.putObj_heap_other Z).trans h.2.2⟩) h0
  (fun x=>{ tmps:=#[pq d,ii a,v,pq w.heap.size,pq (w.heap.size+1),undef,pq (w.heap.size+1+1),
    .slice (some (aq g (o+64*x))) 64 64,undef,v,.func (.func 390) #[] #[pq (w.heap.size+1+1+1),pq (w.heap.size+1+1+1+1)],.slice (some (aq g (o+64*x))) 64 64,
    undef,undef,undef,undef,undef,undef,undef,undef,undef],defers:=[] }) ?assign ?body ?done
 case assign=>
  rintro l x W K E;dsimp only[JAa] at E ⊢
  gi_wp2
  exact E
 case body=>
  rintro l pre x W f ⟨i,bj,aj⟩;obtain⟨F',a5,I⟩:=f.disk;have J:∀ B,w.heap.size<=B->B<t.heap.size->B∉F':=fun B h1 h2 r=>(I B r).elim (fun r=>by have:=ai B r;omega) Z;have az:=J w.heap.size Z Z;have ak:=J (w.heap.size+1) Z Z;have ac:=J (w.heap.size+1+1) Z Z;have b0:=J (w.heap.size+1+1+1) Z Z;have b2:=J (w.heap.size+1+1+1+1) Z Z;have b5:=a5.cells;have b7:=f.size;have a6:=YN D a bs pre.length;have bk:=f.keep.size;have al:g∉F':=fun r=>(I g r).elim ay Z;have am:(seg 64 bs x).length=64:=length_seg 64 bs x Z
  have b8:Rd W (some (aq g (o+64*x))) 64 (bys (seg 64 bs x)):=by
   refine⟨by simp[am],fun _=>⟨g,o+64*x,rfl,Z,fun j u hu=>?_⟩⟩;have hj:j<64:=by have:=(BL.1 hu).1;simpa [am] using this
   obtain⟨b',a0,he,_,b9⟩:=m.2 Z;cases he;have h1:=b9 (64*x+j) u (by rw[<- hu,<- VAK,seg_get _ _ _ _ hj,Bq]);rw[show o+64*x+j=o+(64*x+j) from Z];exact(B1 (w:=w) (aj.trans ab)).trans h1
  have ad:=AR (n:=0).2 (Kj a5 (a6.2.1.trans au) (a6.2.2.1.trans av) (by rw[a6.2.2.2.1];omega) (a+x) (by rw[a6.1];omega) 64 _ b8 (fun bl ba=>by cases ba;exact al) Z);have bm:=f.b3.cell;have an:=f.b4.cell;rw[<- i] at an;have bn:D.n<=4096:=by obtain⟨S,N,bo,U,hh⟩:=h;exact hh.few
  obtain⟨y,hy⟩:=ex (a+x);rw[<- hy] at ad an;have bp:((y:Nat):Int)<=4096:=Z;have ae:=JB hy;clear hy;have a7:=JB i;have a8:=JB f;clear h0 b3 b4 b6 aa c2 kw k1 k2 Y X H L O Q T V a4 i f ab aj s1 s2 s3 s4 ax;gi_wp2_with (refine⟨trivial,?_⟩;refine ad.mono ?_;clear ad;rintro e af ⟨rfl,ao,a2,a3,ap⟩;(have f:=JA a8);(have bb:=(KA f.b3 a3 az));(have a9:=(KA f.b4 a3 ak));(have bc:=KA f.b6 a3 ac);(rw[<- JA a7,<- JA ae] at a9);(have bq:=a9.cell);(have br:=a9.frozen));have f:=JA a8;have E:Keep ((w.heap.size+1) :: F') W (af.setCell ⟨w.heap.size+1,0,none⟩ (.int .i64 ((y:Nat)+1))):=(a3.sub (fun x i=>Av _ i)).setCell (p:=⟨w.heap.size+1,0,none⟩) (.inl Cf) _;have G:Keep [w.heap.size+1] af (af.setCell ⟨w.heap.size+1,0,none⟩ (.int .i64 ((y:Nat)+1))):=kq.setCell (.inl sq) _;have bt:=f.b4.lt;have bd:w.heap.size+1∉ao:=fun r=>(ap _ r).elim ak Z;refine⟨E.fromCells ?_ _,⟨?_,fun m=>KA m E (by simp only[AM,DH];exact⟨Z,b0⟩),fun m=>KA m E (by simp only[AM,DH];exact⟨Z,b2⟩)⟩,⟨⟨ao,?_,fun x i=>?_⟩,AA b7 E.size,?_,?_,?_,?_⟩⟩
  . intro b m o z
    rcases AM.1 m with rfl | m
    . rw[show W.heap[_]? = _ from f.b4] at z;cases z;rfl
    exact b5 b m o z
  . exact E.block g Z (by simp only[AM,DH];exact⟨Z,al⟩)
  . rw[AE,Al,Vi,<- JA a7]
    rw[<- JA a7] at a2;rw[<- JA ae];exact a2.keep G (fun x i r=>by simp at r;subst r;exact bd i)
  . rcases ap x i with i | i
    . exact I x i
    exact .inr Z
  . exact KA bb G sq
  . have:=a9.set (.int .i64 ((y:Nat)+1))
    rw[AE,Al,<- Bf,<- JA a7,<- JA ae];exact this
  . exact KA bc G sq
  exact(f.keep.trans a3 (fun x i=>(I x i).imp id Z)).trans G iq
 case done=>
  intro D' xs W bu bf f ar;subst bf;obtain⟨F',a5,I⟩:=f.disk;have J:∀ B,w.heap.size<=B->B<t.heap.size->B∉F':=fun B h1 h2 r=>(I B r).elim (fun r=>by have:=ai B r;omega) Z;have ac:=J (w.heap.size+1+1) Z Z;have bv:=f.b6.cell;have bw:=f.b6.frozen;have a8:=JB f;clear h0 b3 b4 b6 aa c2 kw k1 k2 Y X H L O Q T V a4 f ab
  gi_wp2
  have f:=JA a8;have G:Keep [w.heap.size+1+1] W (W.setCell ⟨w.heap.size+1+1,0,none⟩ (.int .i64 0)):=kq.sc (w.heap.size+1+1) 0;have ag:(W.setCell ⟨w.heap.size+1+1,0,none⟩ (.int .i64 0)).heap[D']? = some (.deferred (some [])):=(G.block D' (AI.1 ar).1 (by simp;omega)).trans ar;have q6:=(JC (.deferred none) (f.b6.set (.int .i64 0)) ag rfl).cell;have a2:=(a5.keep G (fun x i r=>by simp at r;subst r;exact ac i)).putObj (.deferred none) ag rfl;have bg:=(f.keep.trans G iq).putObj (g:=D') Z (.deferred none);rw[List.length_range] at a2;refine⟨sq,.inl ⟨_,_,rfl,run_takeDeferred ag,?_⟩⟩;refine⟨.int .i64 0,?_,rfl,F',a2,bg,fun x i=>(I x i).imp id Z⟩;simp[results,results228,go_sem,q6]
end
section
open Go.RowKit
variable {P:Program}
theorem Zm {g:Operand} {c:Array Tmp} {assign body:Code} {Q:Exit->Act->World->Prop} {a:Act} {gf:Nat} {lb:Array Value}
 (s:a.eval g=.func (.func gf) #[] lb) (t:∀ f w,(callFunc gf f).run P w=.ok (.enter gf f) w)
 (L:List Nat) (u:∀ x∈L,x<w.heap.size) {G:World->Prop} (y:Qo w.heap.size G)
 (z:∀ (l:Nat) (W:World),kz w W->w.heap.size+2<=W.heap.size->CallsIn Fence.wide (n-1) P gf (#[.func (.yield l) #[] #[]]++lb) W fun e W'=>(∃ v,e=.returned v)/\Keep L W W'/\G W')
 (A:∀ (D:Nat) (W:World),w.heap.size<=D->Keep L w W->G W->W.heap[D]? = some (.deferred (some []))->Q .normal { a with defers:={ target:=.collected D,args:=#[] } :: a.defers } W) :
 (Code.rangeFunc g c assign body).wpIn Fence.wide n P Q a w:=by
 obtain⟨d,b⟩:=ex w.heap.size;refine wpIn_rangeFunc fun fn _=>?_
 let ready:Loop:={ state:=.ready,pending:=none,fn,tmps:=a.tmps,params:=c,assign,body,defers:=d }
 let wl:=(w.alloc (.deferred (some []))).alloc (.loop ready)
 have i:kz w wl:=(kq.alloc _).alloc _
 have B:wl.heap[d+1]? = some (.loop ready):=by
  have:=World.alloc_heap_new (w.alloc (.deferred (some []))) (.loop ready)
  rwa [AN,<- b] at this
 have C:wl.heap[d]? = some (.deferred (some [])):=by
  have E:(w.alloc (.deferred (some []))).heap[d]? = some (.deferred (some [])):=by rw[b];exact World.alloc_heap_new w _
  exact Keep.heap_same ((Keep.refl [] _).alloc _) E
 refine⟨d+1,[{ target:=.collected d,args:=#[] }],wl,{ target:=.fn (.func gf) lb,args:=#[.func (.yield (d+1)) #[] #[]] },wl,gf,#[.func (.yield (d+1)) #[] #[]]++lb,wl,?_,?_,fun _ _=>trivial,?_,fun h=>by simp[Fence.wide] at h,?_⟩
 . rw[b];simp only[ready,wl,b];exact run_enterLoop_outer _ _ _ _ _
 . simp only[resolve,s]
   simp[go_sem]
 . simp[invoke,go_sem,t]
 refine(z (d+1) wl i (by simp only[wl,AN];omega)).mono ?_;rintro e W ⟨⟨v,rfl⟩,j,F⟩
 have m:∀ k o,w.heap.size<=k->wl.heap[k]? = some o->W.heap[k]? = some o:=fun k o K p=>
  (j.block k (AI.1 p).1 (fun H=>by have:=u k H;omega)).trans p
 have r:=m _ _ Z B;have I:=m _ _ Z C;exact⟨none,_,run_endLoop r (by simp[ready]),A d _ (Ap b.symm) ((i.zero.trans j (fun x J=>.inl J)).putObj Z _) (y _ _ _ _ F Z r rfl) ((World.putObj_heap_other Z).trans I)⟩