/- Lemmas of the proof, with their conditions. -/
import Derived.Test.YtfedaknhecbehaaGreatL01
import Derived.RangeFuncNested
import Derived.RangeFuncBound
import Derived.Shelf.Abstract
namespace Go.Proofs.YtfedaknhecbehaaGreat
open Tryz
variable {n gf:Nat} {Q:Exit->Act->World->Prop} {a:Act} {w:World} {lb:Array Value} {Kp:World->World->Prop}
set_option linter.all false
section
open Go.RowKit
variable {P:Program} {α:Type}
def Qo (B:Nat) (T:World->Prop):Prop:=∀ W l o o',T W->B<=l->W.heap[l]? = some o->o.isCells=false->T (W.putObj l o')
def XBV (n:Nat) (P:Program) (gf:Nat) (lb:Array Value) (encs:α->Array Value) (Fx:List α->α->World->Prop) (Kp:World->World->Prop) (S:List α->Prop) (w:World):Prop:=
 ∀ (l:Nat) (J:List α->World->Prop) (W:World),kz w W->(∀ s A B,J s A->kz A B->J s B) ->
   (∀ pre x W1,J pre W1->Fx pre x W1->YieldAt Fence.wide (n-1) P l (encs x) W1 fun e W'=>e=.returned (.bool true)/\J (pre++[x]) W'/\Kp W1 W')->J [] W ->
   CallsIn Fence.wide n P gf (#[.func (.yield l) #[] #[]]++lb) W fun e W'=>(∃ v,e=.returned v)/\∃ xs,S xs/\J xs W'
def JAd (B:Nat) (Kp:World->World->Prop) (I:World->Prop) (W:World):Exit->Act->World->Prop
 | .normal,_,W'=>KeepsFrom B W W'/\Kp W W'/\I W'
 | _,_,_=>False
theorem Keep.heap_same {A B:World} (h:kz A B) {l:Nat} {o:Obj} (a:A.heap[l]? = some o):B.heap[l]? = some o:=
 (h.block l (AI.1 a).1 sq).trans a
theorem ZV {g:Operand} {m:Array Tmp} {assign body:Code}
 (T:a.eval g=.func (.func gf) #[] lb) (U:∀ F w,(callFunc gf F).run P w=.ok (.enter gf F) w)
 {u:α->Array Value} {y:List α->α->World->Prop} {S:List α->Prop} (V:XBV (n-1) P gf lb u y Kp S w)
 (G:∀ A B C,Kp A B->Kp B C->Kp A C) (H:∀ W l o X,w.heap.size<=l->W.heap[l]? = some o->o.isCells=false->Kp W (W.putObj l X)) (Y:∀ x,(u x).size=m.size)
 (I:List α->World->Prop) (L:∀ s A B,I s A->kz A B->I s B) (z:∀ s,Qo w.heap.size (I s)) (a0:∀ b x,Qo w.heap.size (y b x)) (h0:I [] w) (M:α->Act)
 (a1:∀ (l:Nat) (x:α) (W:World) (K:Act->World->Prop),K (M x) W ->
   assign.wpIn (Fence.wide.inRound l) (n-1-1) P (Exit.then K (fun _ _ _=>False)) { tmps:=(m.zip (u x)).foldl (fun t (p,v)=>t.setIfInBounds p v) a.tmps,defers:=[] } W)
 (a2:∀ (l:Nat) (b:List α) (x:α) (W:World),I b W->y b x W->body.wpIn (Fence.wide.inRound l) (n-1-1) P (JAd w.heap.size Kp (I (b++[x])) W) (M x) W)
 (a3:∀ (D:Nat) (xs:List α) (W:World),w.heap.size<=D->S xs->I xs W->W.heap[D]? = some (.deferred (some []))->Q .normal { a with defers:={ target:=.collected D,args:=#[] } :: a.defers } W) :
 (Code.rangeFunc g m assign body).wpIn Fence.wide n P Q a w:=by
 obtain⟨d,i⟩:=ex w.heap.size;refine wpIn_rangeFunc fun fn _=>?_
 -- the loop's record in its two states, and the world behind its laying
 let ready:Loop:={ state:=.ready,pending:=none,fn,tmps:=a.tmps,params:=m,assign,body,defers:=d }
 let busy:Loop:={ ready with state:=.busy }
 let wl:=(w.alloc (.deferred (some []))).alloc (.loop ready)
 have N:kz w wl:=(kq.alloc _).alloc _
 have a4:wl.heap[d+1]? = some (.loop ready):=by
  have:=World.alloc_heap_new (w.alloc (.deferred (some []))) (.loop ready)
  rwa [AN,<- i] at this
 have a5:wl.heap[d]? = some (.deferred (some [])):=by
  have h1:(w.alloc (.deferred (some []))).heap[d]? = some (.deferred (some [])):=by rw[i];exact World.alloc_heap_new w _
  exact Keep.heap_same ((Keep.refl [] _).alloc _) h1
 refine⟨d+1,[{ target:=.collected d,args:=#[] }],wl,{ target:=.fn (.func gf) lb,args:=#[.func (.yield (d+1)) #[] #[]] },wl,gf,#[.func (.yield (d+1)) #[] #[]]++lb,wl,?_,?_,fun _ _=>trivial,?_,fun h=>by simp[Fence.wide] at h,?_⟩
 . rw[i];simp only[ready,wl,i];exact run_enterLoop_outer _ _ _ _ _
 . simp only[resolve,T]
   simp[go_sem]
 . simp[invoke,go_sem,U]
 let J:List α->World->Prop:=fun b W=>I b W/\W.heap[d+1]? = some (.loop ready)/\W.heap[d]? = some (.deferred (some []))
 refine(V (d+1) J wl N (fun s A B h f=>⟨L s A B h.1 f,f.heap_same h.2.1,f.heap_same h.2.2⟩) ?round ⟨L _ _ _ h0 N,a4,a5⟩).mono ?behind
 case behind=>
  rintro e W ⟨⟨v,rfl⟩,xs,a6,E,c,f⟩;exact⟨none,_,run_endLoop c (by simp[ready]),a3 d xs _ (Ap i.symm) a6 (z xs W _ _ _ E Z c rfl) ((World.putObj_heap_other Z).trans f)⟩
 rintro b x W ⟨E,c,f⟩ a7;have a8:d+1<W.heap.size:=(AI.1 c).1;refine⟨fn,_,assign,body,run_yield c (Y x),roundIn_of_wpIn trivial (a1 _ x W _ ⟨_,run_beginRound c rfl,?_⟩)⟩
 let Wb:=W.putObj (d+1) (.loop busy)
 have a9:Wb.heap[d+1]? = some (.loop busy):=World.putObj_heap_same a8;have aa:Wb.heap[d]? = some (.deferred (some [])):=(World.putObj_heap_other Z).trans f;have j:w.heap.size<=d+1:=Z;refine Dv (a2 _ b x Wb (z b W _ _ _ E j c rfl) (a0 b x W _ _ _ a7 j c rfl)) ?_;intro e ae O k
 cases e with
 | normal=>
   obtain⟨R,ab,ac⟩:=k;have r:=R.same _ _ j a9 rfl;have ad:=R.same _ _ (Ap i.symm) aa rfl;refine⟨_,_,run_endRound none r,rfl,⟨z _ O _ _ _ ac j r rfl,World.putObj_heap_same (AI.1 r).1,(World.putObj_heap_other Z).trans ad⟩,?_⟩
   exact G _ _ _ (H W _ _ _ j c rfl) (G _ _ _ ab (H O _ _ _ j r rfl))
 | ret=>exact k.elim
 | exit _=>exact k.elim
 | goto _=>exact k.elim
 | panic _=>exact k.elim
 | outgrown=>exact k.elim
end
section
open Go.RowKit
variable {P:Program} {α:Type}
def JBs (n:Nat) (P:Program) (gf:Nat) (lb:Array Value) (encs:α->Array Value) (Fx:List α->α->World->Prop) (Kp:World->World->Prop) (S:List α->Prop) (w:World):Prop:=
 ∀ (l:Nat) (J:List α->World->Prop) (W:World),kz w W->w.heap.size+2<=W.heap.size->(∀ s A B,J s A->kz A B->J s B)->(∀ s,Qo W.heap.size (J s)) ->
   (∀ pre x W1,J pre W1->Fx pre x W1->YieldAt Fence.wide (n-1) P l (encs x) W1 fun e W'=>e=.returned (.bool true)/\J (pre++[x]) W'/\Kp W1 W')->J [] W ->
   CallsIn Fence.wide n P gf (#[.func (.yield l) #[] #[]]++lb) W fun e W'=>(∃ v,e=.returned v)/\∃ xs,S xs/\J xs W'
theorem QAY {g:Operand} {k:Array Tmp} {assign body:Code}
 (y:a.eval g=.func (.func gf) #[] lb) (V:∀ H w,(callFunc gf H).run P w=.ok (.enter gf H) w)
 {z:α->Array Value} {E:List α->α->World->Prop} {S:List α->Prop} (X:JBs (n-1) P gf lb z E Kp S w)
 (L:∀ A B C,Kp A B->Kp B C->Kp A C) (M:∀ W o F,W.heap[w.heap.size+1]? = some o->o.isCells=false->Kp W (W.putObj (w.heap.size+1) F)) (Y:∀ x,(z x).size=k.size)
 (I:List α->World->Prop) (N:∀ s A B,I s A->kz A B->I s B) (m:∀ s,Qo w.heap.size (I s)) (a0:∀ b x,Qo w.heap.size (E b x)) (h0:I [] w) (O:α->Act)
 (a1:∀ (l:Nat) (x:α) (W:World) (K:Act->World->Prop),K (O x) W ->
   assign.wpIn (Fence.wide.inRound l) (n-1-1) P (Exit.then K (fun _ _ _=>False)) { tmps:=(k.zip (z x)).foldl (fun t (p,v)=>t.setIfInBounds p v) a.tmps,defers:=[] } W)
 (a2:∀ (l:Nat) (b:List α) (x:α) (W:World),I b W->E b x W->body.wpIn (Fence.wide.inRound l) (n-1-1) P (JAd w.heap.size Kp (I (b++[x])) W) (O x) W)
 (a3:∀ (D:Nat) (xs:List α) (W:World),w.heap.size<=D->S xs->I xs W->W.heap[D]? = some (.deferred (some []))->Q .normal { a with defers:={ target:=.collected D,args:=#[] } :: a.defers } W) :
 (Code.rangeFunc g k assign body).wpIn Fence.wide n P Q a w:=by
 obtain⟨d,f⟩:=ex w.heap.size;refine wpIn_rangeFunc fun fn _=>?_
 -- the loop's record in its two states, and the world behind its laying
 let ready:Loop:={ state:=.ready,pending:=none,fn,tmps:=a.tmps,params:=k,assign,body,defers:=d }
 let busy:Loop:={ ready with state:=.busy }
 let wl:=(w.alloc (.deferred (some []))).alloc (.loop ready)
 have R:kz w wl:=(kq.alloc _).alloc _
 have a4:wl.heap[d+1]? = some (.loop ready):=by
  have:=World.alloc_heap_new (w.alloc (.deferred (some []))) (.loop ready)
  rwa [AN,<- f] at this
 have a5:wl.heap[d]? = some (.deferred (some [])):=by
  have h1:(w.alloc (.deferred (some []))).heap[d]? = some (.deferred (some [])):=by rw[f];exact World.alloc_heap_new w _
  exact Keep.heap_same ((Keep.refl [] _).alloc _) h1
 refine⟨d+1,[{ target:=.collected d,args:=#[] }],wl,{ target:=.fn (.func gf) lb,args:=#[.func (.yield (d+1)) #[] #[]] },wl,gf,#[.func (.yield (d+1)) #[] #[]]++lb,wl,?_,?_,fun _ _=>trivial,?_,fun h=>by simp[Fence.wide] at h,?_⟩
 . rw[f];simp only[ready,wl,f];exact run_enterLoop_outer _ _ _ _ _
 . simp only[resolve,y]
   simp[go_sem]
 . simp[invoke,go_sem,V]
 let J:List α->World->Prop:=fun b W=>I b W/\W.heap[d+1]? = some (.loop ready)/\W.heap[d]? = some (.deferred (some []))
 have ae:wl.heap.size=d+2:=by simp only[wl,AN,f]
 refine(X (d+1) J wl R Z (fun s A B h i=>⟨N s A B h.1 i,i.heap_same h.2.1,i.heap_same h.2.2⟩) (fun s W l o F h hl y ho=>⟨m s W l o F h.1 Z y ho,(World.putObj_heap_other Z).trans h.2.1,(World.putObj_heap_other Z).trans h.2.2⟩) ?round ⟨N _ _ _ h0 R,a4,a5⟩).mono ?behind
 case behind=>
  rintro e W ⟨⟨v,rfl⟩,xs,a6,G,c,i⟩;exact⟨none,_,run_endLoop c (by simp[ready]),a3 d xs _ (Ap f.symm) a6 (m xs W _ _ _ G Z c rfl) ((World.putObj_heap_other Z).trans i)⟩
 rintro b x W ⟨G,c,i⟩ a7;have a8:d+1<W.heap.size:=(AI.1 c).1;refine⟨fn,_,assign,body,run_yield c (Y x),roundIn_of_wpIn trivial (a1 _ x W _ ⟨_,run_beginRound c rfl,?_⟩)⟩
 let Wb:=W.putObj (d+1) (.loop busy)
 have a9:Wb.heap[d+1]? = some (.loop busy):=World.putObj_heap_same a8;have aa:Wb.heap[d]? = some (.deferred (some [])):=(World.putObj_heap_other Z).trans i;have r:w.heap.size<=d+1:=Z;refine Dv (a2 _ b x Wb (m b W _ _ _ G r c rfl) (a0 b x W _ _ _ a7 r c rfl)) ?_;intro e af T j
 cases e with
 | normal=>
   obtain⟨U,ab,ac⟩:=j;have u:=U.same _ _ r a9 rfl;have ad:=U.same _ _ (Ap f.symm) aa rfl;refine⟨_,_,run_endRound none u,rfl,⟨m _ T _ _ _ ac r u rfl,World.putObj_heap_same (AI.1 u).1,(World.putObj_heap_other Z).trans ad⟩,?_⟩;subst f
   exact L _ _ _ (M W _ _ c rfl) (L _ _ _ ab (M T _ _ u rfl))
 | ret=>exact j.elim
 | exit _=>exact j.elim
 | goto _=>exact j.elim
 | panic _=>exact j.elim
 | outgrown=>exact j.elim