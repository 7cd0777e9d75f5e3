/- Lemmas of the proof, with their conditions. -/
import Derived.Test.YthgphmfipnjllaaGreatV01
import Derived.RangeFuncNested
import Derived.RangeFuncBound
import Derived.Shelf.Abstract
namespace Go.Proofs.YthgphmfipnjllaaGreat
set_option linter.unusedSimpArgs false
set_option linter.unusedVariables false
section
open Go.RowKit
variable {P:Program} {α:Type}
def Zq (B:Nat) (T:World→Prop):Prop:=∀ W l o o',T W→B≤l→W.heap[l]? = some o→o.isCells=false→T (W.putObj l o')
def XBD (n:Nat) (P:Program) (gf:Nat) (lb:Array Value) (encs:α→Array Value) (Fx:List α→α→World→Prop) (Kp:World→World→Prop) (S:List α→Prop) (w:World):Prop:=
 ∀ (l:Nat) (J:List α→World→Prop) (W:World),Keep [] w W→(∀ s A B,J s A→Keep [] A B→J s B) →
   (∀ pre x W1,J pre W1→Fx pre x W1→YieldAt Fence.wide (n-1) P l (encs x) W1 fun e W'=>e=.returned (.bool true)∧J (pre++[x]) W'∧Kp W1 W')→J [] W →
   CallsIn Fence.wide n P gf (#[.func (.yield l) #[] #[]]++lb) W fun e W'=>(∃ v,e=.returned v)∧∃ xs,S xs∧J xs W'
def XAW (B:Nat) (Kp:World→World→Prop) (I:World→Prop) (W:World):Exit→Act→World→Prop
 | .normal,_,W'=>KeepsFrom B W W'∧Kp W W'∧I W'
 | _,_,_=>False
theorem Keep.heap_same {A B:World} (h:Keep [] A B) {l:Nat} {o:Obj} (hl:A.heap[l]? = some o):B.heap[l]? = some o:=
 (h.block l (Array.getElem?_eq_some_iff.1 hl).1 (by simp)).trans hl
theorem XT {n:Nat} {g:Operand} {ps:Array Tmp} {assign body:Code} {Q:Exit→Act→World→Prop} {a:Act} {w:World} {gf:Nat} {lb:Array Value}
 (hg:a.eval g=.func (.func gf) #[] lb) (eg:∀ args w,(callFunc gf args).run P w=.ok (.enter gf args) w)
 {encs:α→Array Value} {Fx:List α→α→World→Prop} {Kp:World→World→Prop} {S:List α→Prop} (hseq:XBD (n-1) P gf lb encs Fx Kp S w)
 (hKt:∀ A B C,Kp A B→Kp B C→Kp A C) (hKb:∀ W l o o',w.heap.size≤l→W.heap[l]? = some o→o.isCells=false→Kp W (W.putObj l o')) (hps:∀ x,(encs x).size=ps.size)
 (I:List α→World→Prop) (hIk:∀ s A B,I s A→Keep [] A B→I s B) (hIb:∀ s,Zq w.heap.size (I s)) (hFb:∀ pre x,Zq w.heap.size (Fx pre x)) (h0:I [] w) (a₁:α→Act)
 (hassign:∀ (l:Nat) (x:α) (W:World) (K:Act→World→Prop),K (a₁ x) W →
   assign.wpIn (Fence.wide.inRound l) (n-1-1) P (Exit.then K (fun _ _ _=>False)) { tmps:=(ps.zip (encs x)).foldl (fun t (p,v)=>t.setIfInBounds p v) a.tmps,defers:=[] } W)
 (hbody:∀ (l:Nat) (pre:List α) (x:α) (W:World),I pre W→Fx pre x W→body.wpIn (Fence.wide.inRound l) (n-1-1) P (XAW w.heap.size Kp (I (pre++[x])) W) (a₁ x) W)
 (hdone:∀ (D:Nat) (xs:List α) (W:World),w.heap.size≤D→S xs→I xs W→W.heap[D]? = some (.deferred (some []))→Q .normal { a with defers:={ target:=.collected D,args:=#[] } :: a.defers } W) :
 (Code.rangeFunc g ps assign body).wpIn Fence.wide n P Q a w:=by
 obtain⟨d,hd⟩:∃ d,d=w.heap.size:=⟨_,rfl⟩
 refine wpIn_rangeFunc fun fn _=>?_
 -- the loop's record in its two states, and the world behind its laying
 let ready:Loop:={ state:=.ready,pending:=none,fn,tmps:=a.tmps,params:=ps,assign,body,defers:=d }
 let busy:Loop:={ ready with state:=.busy }
 let wl:=(w.alloc (.deferred (some []))).alloc (.loop ready)
 have hwl:Keep [] w wl:=((Keep.refl _ _).alloc _).alloc _
 have hrec:wl.heap[d+1]? = some (.loop ready):=by
  have:=World.alloc_heap_new (w.alloc (.deferred (some []))) (.loop ready)
  rwa [World.size_alloc,← hd] at this
 have hdef:wl.heap[d]? = some (.deferred (some [])):=by
  have h1:(w.alloc (.deferred (some []))).heap[d]? = some (.deferred (some [])):=by rw[hd];exact World.alloc_heap_new w _
  exact Keep.heap_same ((Keep.refl [] _).alloc _) h1
 refine⟨d+1,[{ target:=.collected d,args:=#[] }],wl,{ target:=.fn (.func gf) lb,args:=#[.func (.yield (d+1)) #[] #[]] },wl,gf,#[.func (.yield (d+1)) #[] #[]]++lb,wl,?_,?_,fun _ _=>trivial,?_,fun h=>by simp[Fence.wide] at h,?_⟩
 · rw[hd];simp only[ready,wl,hd];exact run_enterLoop_outer _ _ _ _ _
 · simp only[resolve,hg]
   simp[go_sem]
 · simp[invoke,go_sem,eg]
 let J:List α→World→Prop:=fun pre W=>I pre W∧W.heap[d+1]? = some (.loop ready)∧W.heap[d]? = some (.deferred (some []))
 refine(hseq (d+1) J wl hwl (fun s A B h hk=>⟨hIk s A B h.1 hk,hk.heap_same h.2.1,hk.heap_same h.2.2⟩) ?round ⟨hIk _ _ _ h0 hwl,hrec,hdef⟩).mono ?behind
 case behind=>
  rintro e W ⟨⟨v,rfl⟩,xs,hS,hI,hr,hk⟩
  exact⟨none,_,run_endLoop hr (by simp[ready]),hdone d xs _ (Nat.le_of_eq hd.symm) hS (hIb xs W _ _ _ hI (by omega) hr rfl) ((World.putObj_heap_other (by omega)).trans hk)⟩
 case round=>
  rintro pre x W ⟨hI,hr,hk⟩ hF
  have hlt:d+1<W.heap.size:=(Array.getElem?_eq_some_iff.1 hr).1
  refine⟨fn,_,assign,body,run_yield hr (hps x),roundIn_of_wpIn trivial (hassign _ x W _ ⟨_,run_beginRound hr rfl,?_⟩)⟩
  let Wb:=W.putObj (d+1) (.loop busy)
  have hbr:Wb.heap[d+1]? = some (.loop busy):=World.putObj_heap_same hlt
  have hbk:Wb.heap[d]? = some (.deferred (some [])):=(World.putObj_heap_other (by omega)).trans hk
  have hge:w.heap.size≤d+1:=by omega
  refine wpIn_mono (hbody _ pre x Wb (hIb pre W _ _ _ hI hge hr rfl) (hFb pre x W _ _ _ hF hge hr rfl)) ?_
  intro e a3 W3 hp
  cases e with
  | normal=>
    obtain⟨hk3,hKp,hI3⟩:=hp
    have hr3:=hk3.same _ _ hge hbr rfl
    have hd3:=hk3.same _ _ (Nat.le_of_eq hd.symm) hbk rfl
    refine⟨_,_,run_endRound none hr3,rfl,⟨hIb _ W3 _ _ _ hI3 hge hr3 rfl,World.putObj_heap_same (Array.getElem?_eq_some_iff.1 hr3).1,(World.putObj_heap_other (by omega)).trans hd3⟩,?_⟩
    exact hKt _ _ _ (hKb W _ _ _ hge hr rfl) (hKt _ _ _ hKp (hKb W3 _ _ _ hge hr3 rfl))
  | ret=>exact hp.elim
  | exit _=>exact hp.elim
  | goto _=>exact hp.elim
  | panic _=>exact hp.elim
  | outgrown=>exact hp.elim
end
section
open Go.RowKit
variable {P:Program} {α:Type}
end
end Go.Proofs.YthgphmfipnjllaaGreat
