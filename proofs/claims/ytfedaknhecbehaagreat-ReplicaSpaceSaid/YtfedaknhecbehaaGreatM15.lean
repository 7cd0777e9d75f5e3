/- Lemmas of the proof, with their conditions. -/
import Derived.Test.YtfedaknhecbehaaGreatM01
import Derived.RangeFuncNested
import Derived.RangeFuncBound
import Derived.Shelf.Abstract
namespace Go.Proofs.YtfedaknhecbehaaGreat
open Tryz
variable {n gf:Nat} {Q:Exit->Act->World->Prop} {a:Act} {w:World} {lb:Array Value} {Kp:World->World->Prop}
set_option linter.all false
section
open Go.RowKit
variable {P:Program} {α:Type}
def Kn (B:Nat) (T:World->Prop):Prop:=∀ W l o o',T W->B<=l->W.heap[l]? = some o->o.isCells=false->T (W.putObj l o')
def ZBI (n:Nat) (P:Program) (gf:Nat) (lb:Array Value) (encs:α->Array Value) (Fx:List α->α->World->Prop) (Kp:World->World->Prop) (S:List α->Prop) (w:World):Prop:=
 ∀ (l:Nat) (J:List α->World->Prop) (W:World),kz w W->(∀ s A B,J s A->kz A B->J s B) ->
   (∀ pre x W1,J pre W1->Fx pre x W1->YieldAt Fence.wide (n-1) P l (encs x) W1 fun e W'=>e=.returned (.bool true)/\J (pre++[x]) W'/\Kp W1 W')->J [] W ->
   CallsIn Fence.wide n P gf (#[.func (.yield l) #[] #[]]++lb) W fun e W'=>(∃ v,e=.returned v)/\∃ xs,S xs/\J xs W'
def VAb (B:Nat) (Kp:World->World->Prop) (I:World->Prop) (W:World):Exit->Act->World->Prop
 | .normal,_,W'=>KeepsFrom B W W'/\Kp W W'/\I W'
 | _,_,_=>False
theorem Keep.heap_same {A B:World} (h:kz A B) {l:Nat} {o:Obj} (a:A.heap[l]? = some o):B.heap[l]? = some o:=
 (h.block l (AR.1 a).1 sq).trans a
theorem ZU {g:Operand} {m:Array Tmp} {assign body:Code}
 (O:a.eval g=.func (.func gf) #[] lb) (R:∀ z w,(callFunc gf z).run P w=.ok (.enter gf z) w)
 {r:α->Array Value} {Fx:List α->α->World->Prop} {S:List α->Prop} (T:ZBI (n-1) P gf lb r Fx Kp S w)
 (E:∀ A B C,Kp A B->Kp B C->Kp A C) (F:∀ W l o U,w.heap.size<=l->W.heap[l]? = some o->o.isCells=false->Kp W (W.putObj l U)) (V:∀ x,(r x).size=m.size)
 (I:List α->World->Prop) (G:∀ s A B,I s A->kz A B->I s B) (u:∀ s,Kn w.heap.size (I s)) (X:∀ b x,Kn w.heap.size (Fx b x)) (Y:I [] w) (H:α->Act)
 (a0:∀ (l:Nat) (x:α) (W:World) (K:Act->World->Prop),K (H x) W ->
   assign.wpIn (Fence.wide.inRound l) (n-1-1) P (Exit.then K (fun _ _ _=>False)) { tmps:=(m.zip (r x)).foldl (fun t (p,v)=>t.setIfInBounds p v) a.tmps,defers:=[] } W)
 (a1:∀ (l:Nat) (b:List α) (x:α) (W:World),I b W->Fx b x W->body.wpIn (Fence.wide.inRound l) (n-1-1) P (VAb w.heap.size Kp (I (b++[x])) W) (H x) W)
 (a2:∀ (D:Nat) (xs:List α) (W:World),w.heap.size<=D->S xs->I xs W->W.heap[D]? = some (.deferred (some []))->Q .normal { a with defers:={ target:=.collected D,args:=#[] } :: a.defers } W) :
 (Code.rangeFunc g m assign body).wpIn Fence.wide n P Q a w:=by
 obtain⟨d,i⟩:=ex w.heap.size;refine wpIn_rangeFunc fun fn _=>?_
 -- the loop's record in its two states, and the world behind its laying
 let ready:Loop:={ state:=.ready,pending:=none,fn,tmps:=a.tmps,params:=m,assign,body,defers:=d }
 let busy:Loop:={ ready with state:=.busy }
 let wl:=(w.alloc (.deferred (some []))).alloc (.loop ready)
 have L:kz w wl:=(kq.alloc _).alloc _
 have a3:wl.heap[d+1]? = some (.loop ready):=by
  have:=World.alloc_heap_new (w.alloc (.deferred (some []))) (.loop ready)
  rwa [AM,<- i] at this
 have a4:wl.heap[d]? = some (.deferred (some [])):=by
  have h1:(w.alloc (.deferred (some []))).heap[d]? = some (.deferred (some [])):=by rw[i];exact World.alloc_heap_new w _
  exact Keep.heap_same ((Keep.refl [] _).alloc _) h1
 refine⟨d+1,[{ target:=.collected d,args:=#[] }],wl,{ target:=.fn (.func gf) lb,args:=#[.func (.yield (d+1)) #[] #[]] },wl,gf,#[.func (.yield (d+1)) #[] #[]]++lb,wl,?_,?_,fun _ _=>trivial,?_,fun h=>by simp[Fence.wide] at h,?_⟩
 . rw[i];simp only[ready,wl,i];exact run_enterLoop_outer _ _ _ _ _
 . simp only[resolve,O]
   simp[go_sem]
 . simp[invoke,go_sem,R]
 let J:List α->World->Prop:=fun b W=>I b W/\W.heap[d+1]? = some (.loop ready)/\W.heap[d]? = some (.deferred (some []))
 refine(T (d+1) J wl L (fun s A B h f=>⟨G s A B h.1 f,f.heap_same h.2.1,f.heap_same h.2.2⟩) ?round ⟨G _ _ _ Y L,a3,a4⟩).mono ?behind
 case behind=>
  rintro e W ⟨⟨v,rfl⟩,xs,a5,y,c,f⟩;exact⟨none,_,run_endLoop c (by simp[ready]),a2 d xs _ (Ar i.symm) a5 (u xs W _ _ _ y Z c rfl) ((World.putObj_heap_other Z).trans f)⟩
 rintro b x W ⟨y,c,f⟩ a6;have a7:d+1<W.heap.size:=(AR.1 c).1;refine⟨fn,_,assign,body,run_yield c (V x),roundIn_of_wpIn trivial (a0 _ x W _ ⟨_,run_beginRound c rfl,?_⟩)⟩
 let Wb:=W.putObj (d+1) (.loop busy)
 have a8:Wb.heap[d+1]? = some (.loop busy):=World.putObj_heap_same a7;have a9:Wb.heap[d]? = some (.deferred (some [])):=(World.putObj_heap_other Z).trans f;have j:w.heap.size<=d+1:=Z
 refine wpIn_mono (a1 _ b x Wb (u b W _ _ _ y j c rfl) (X b x W _ _ _ a6 j c rfl)) ?_;intro e ad M k
 cases e with
 | normal=>
   obtain⟨N,aa,ab⟩:=k;have q:=N.same _ _ j a8 rfl;have ac:=N.same _ _ (Ar i.symm) a9 rfl;refine⟨_,_,run_endRound none q,rfl,⟨u _ M _ _ _ ab j q rfl,World.putObj_heap_same (AR.1 q).1,(World.putObj_heap_other Z).trans ac⟩,?_⟩
   exact E _ _ _ (F W _ _ _ j c rfl) (E _ _ _ aa (F M _ _ _ j q rfl))
 | ret=>exact k.elim
 | exit _=>exact k.elim
 | goto _=>exact k.elim
 | panic _=>exact k.elim
 | outgrown=>exact k.elim
end
section
open Go.RowKit
variable {P:Program} {α:Type}
def QBo (n:Nat) (P:Program) (gf:Nat) (lb:Array Value) (encs:α->Array Value) (Fx:List α->α->World->Prop) (Kp:World->World->Prop) (S:List α->Prop) (w:World):Prop:=
 ∀ (l:Nat) (J:List α->World->Prop) (W:World),kz w W->w.heap.size+2<=W.heap.size->(∀ s A B,J s A->kz A B->J s B)->(∀ s,Kn W.heap.size (J s)) ->
   (∀ pre x W1,J pre W1->Fx pre x W1->YieldAt Fence.wide (n-1) P l (encs x) W1 fun e W'=>e=.returned (.bool true)/\J (pre++[x]) W'/\Kp W1 W')->J [] W ->
   CallsIn Fence.wide n P gf (#[.func (.yield l) #[] #[]]++lb) W fun e W'=>(∃ v,e=.returned v)/\∃ xs,S xs/\J xs W'
theorem QAX {g:Operand} {k:Array Tmp} {assign body:Code}
 (u:a.eval g=.func (.func gf) #[] lb) (T:∀ F w,(callFunc gf F).run P w=.ok (.enter gf F) w)
 {y:α->Array Value} {Fx:List α->α->World->Prop} {S:List α->Prop} (U:QBo (n-1) P gf lb y Fx Kp S w)
 (G:∀ A B C,Kp A B->Kp B C->Kp A C) (H:∀ W o z,W.heap[w.heap.size+1]? = some o->o.isCells=false->Kp W (W.putObj (w.heap.size+1) z)) (V:∀ x,(y x).size=k.size)
 (I:List α->World->Prop) (L:∀ s A B,I s A->kz A B->I s B) (m:∀ s,Kn w.heap.size (I s)) (X:∀ b x,Kn w.heap.size (Fx b x)) (Y:I [] w) (M:α->Act)
 (a0:∀ (l:Nat) (x:α) (W:World) (K:Act->World->Prop),K (M x) W ->
   assign.wpIn (Fence.wide.inRound l) (n-1-1) P (Exit.then K (fun _ _ _=>False)) { tmps:=(k.zip (y x)).foldl (fun t (p,v)=>t.setIfInBounds p v) a.tmps,defers:=[] } W)
 (a1:∀ (l:Nat) (b:List α) (x:α) (W:World),I b W->Fx b x W->body.wpIn (Fence.wide.inRound l) (n-1-1) P (VAb w.heap.size Kp (I (b++[x])) W) (M x) W)
 (a2:∀ (D:Nat) (xs:List α) (W:World),w.heap.size<=D->S xs->I xs W->W.heap[D]? = some (.deferred (some []))->Q .normal { a with defers:={ target:=.collected D,args:=#[] } :: a.defers } W) :
 (Code.rangeFunc g k assign body).wpIn Fence.wide n P Q a w:=by
 obtain⟨d,f⟩:=ex w.heap.size;refine wpIn_rangeFunc fun fn _=>?_
 -- the loop's record in its two states, and the world behind its laying
 let ready:Loop:={ state:=.ready,pending:=none,fn,tmps:=a.tmps,params:=k,assign,body,defers:=d }
 let busy:Loop:={ ready with state:=.busy }
 let wl:=(w.alloc (.deferred (some []))).alloc (.loop ready)
 have N:kz w wl:=(kq.alloc _).alloc _
 have a3:wl.heap[d+1]? = some (.loop ready):=by
  have:=World.alloc_heap_new (w.alloc (.deferred (some []))) (.loop ready)
  rwa [AM,<- f] at this
 have a4:wl.heap[d]? = some (.deferred (some [])):=by
  have h1:(w.alloc (.deferred (some []))).heap[d]? = some (.deferred (some [])):=by rw[f];exact World.alloc_heap_new w _
  exact Keep.heap_same ((Keep.refl [] _).alloc _) h1
 refine⟨d+1,[{ target:=.collected d,args:=#[] }],wl,{ target:=.fn (.func gf) lb,args:=#[.func (.yield (d+1)) #[] #[]] },wl,gf,#[.func (.yield (d+1)) #[] #[]]++lb,wl,?_,?_,fun _ _=>trivial,?_,fun h=>by simp[Fence.wide] at h,?_⟩
 . rw[f];simp only[ready,wl,f];exact run_enterLoop_outer _ _ _ _ _
 . simp only[resolve,u]
   simp[go_sem]
 . simp[invoke,go_sem,T]
 let J:List α->World->Prop:=fun b W=>I b W/\W.heap[d+1]? = some (.loop ready)/\W.heap[d]? = some (.deferred (some []))
 have ad:wl.heap.size=d+2:=by simp only[wl,AM,f]
 refine(U (d+1) J wl N Z (fun s A B h i=>⟨L s A B h.1 i,i.heap_same h.2.1,i.heap_same h.2.2⟩) (fun s W l o z h hl u ho=>⟨m s W l o z h.1 Z u ho,(World.putObj_heap_other Z).trans h.2.1,(World.putObj_heap_other Z).trans h.2.2⟩) ?round ⟨L _ _ _ Y N,a3,a4⟩).mono ?behind
 case behind=>
  rintro e W ⟨⟨v,rfl⟩,xs,a5,E,c,i⟩;exact⟨none,_,run_endLoop c (by simp[ready]),a2 d xs _ (Ar f.symm) a5 (m xs W _ _ _ E Z c rfl) ((World.putObj_heap_other Z).trans i)⟩
 rintro b x W ⟨E,c,i⟩ a6;have a7:d+1<W.heap.size:=(AR.1 c).1;refine⟨fn,_,assign,body,run_yield c (V x),roundIn_of_wpIn trivial (a0 _ x W _ ⟨_,run_beginRound c rfl,?_⟩)⟩
 let Wb:=W.putObj (d+1) (.loop busy)
 have a8:Wb.heap[d+1]? = some (.loop busy):=World.putObj_heap_same a7;have a9:Wb.heap[d]? = some (.deferred (some [])):=(World.putObj_heap_other Z).trans i;have q:w.heap.size<=d+1:=Z
 refine wpIn_mono (a1 _ b x Wb (m b W _ _ _ E q c rfl) (X b x W _ _ _ a6 q c rfl)) ?_;intro e ae O j
 cases e with
 | normal=>
   obtain⟨R,aa,ab⟩:=j;have r:=R.same _ _ q a8 rfl;have ac:=R.same _ _ (Ar f.symm) a9 rfl;refine⟨_,_,run_endRound none r,rfl,⟨m _ O _ _ _ ab q r rfl,World.putObj_heap_same (AR.1 r).1,(World.putObj_heap_other Z).trans ac⟩,?_⟩;subst f
   exact G _ _ _ (H W _ _ c rfl) (G _ _ _ aa (H O _ _ r rfl))
 | ret=>exact j.elim
 | exit _=>exact j.elim
 | goto _=>exact j.elim
 | panic _=>exact j.elim
 | outgrown=>exact j.elim