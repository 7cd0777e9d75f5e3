/- Lemmas of the proof, with their conditions. -/
import Derived.Test.YthgphmfipnjllaaGreatV02
import Derived.Test.YthgphmfipnjllaaGreatV06
namespace Go.Proofs.YthgphmfipnjllaaGreat
set_option linter.unusedSimpArgs false
set_option linter.unusedVariables false
section
open Go.RowKit
variable {P:Program} {α:Type}
structure KeepT (T:List TypeId) (A B:World):Prop where
 size:A.heap.size≤B.heap.size
 same:∀ (k:Nat) (o:Obj),A.heap[k]? = some o→(∀ cs t,o=Obj.cells cs t→t∉T)→B.heap[k]? = some o
namespace KeepT
variable {T:List TypeId} {A B C:World}
theorem refl (A:World):KeepT T A A:=⟨Nat.le_refl _,fun _ _ h _=>h⟩
theorem trans (h:KeepT T A B) (k:KeepT T B C):KeepT T A C:=⟨Nat.le_trans h.size k.size,fun i o hi ho=>k.same i o (h.same i o hi ho) ho⟩
theorem ofKeep {L:List Nat} (h:Keep L A B) (hl:∀ x∈L,∃ cs t,A.heap[x]? = some (.cells cs t)∧t∈T):KeepT T A B:=
 ⟨h.size,fun k o hk ho=>(h.block k (Array.getElem?_eq_some_iff.1 hk).1 (fun hm=>by
   obtain⟨cs,t,h1,h2⟩:=hl k hm
   rw[h1] at hk
   exact ho cs t (Option.some.inj hk).symm h2)).trans hk⟩
theorem of0 (h:Keep [] A B):KeepT T A B:=ofKeep h (by simp)
theorem blk {b:Nat} {t:TypeId} {cs:Array Value} (h:KeepT T A B) (hb:Blk A b t cs) (ht:t∉T):Blk B b t cs:=h.same b _ hb (fun cs' t' e=>by cases e;exact ht)
theorem box {b:Nat} {t:TypeId} {v:Value} (h:KeepT T A B) (hb:Boxed A b t v) (ht:t∉T):Boxed B b t v:=h.same b _ hb (fun cs' t' e=>by cases e;exact ht)
theorem own {base n s:Nat} {e:TypeId} {v:Value} {xs:List Value} (h:KeepT T A B) (hv:A.ownsRow base e s v n xs) (ht:e∉T):B.ownsRow base e s v n xs:=by
 refine⟨hv.1,?_⟩
 rcases hv.2 with hv | ⟨g,cap,cur,rfl,hb,hg,r⟩
 · exact .inl hv
 · exact .inr ⟨g,cap,cur,rfl,hb,h.same g _ hg (fun cs' t' e=>by cases e;exact ht),r⟩
theorem disk {base d:Nat} {F:List Nat} {D:PDisk} (h:KeepT T A B) (hd:DiskAt A base d F D) (h1:174∉T) (h2:248∉T) (h3:250∉T) (h4:4∉T):DiskAt B base d F D:=by
 obtain⟨S,N,H,U,hd⟩:=hd
 exact⟨S,N,H,U,h.blk hd.blk h1,h.own hd.safe h2,h.own hd.now h2,h.own hd.held h3,h.own hd.flt h4,hd.ne,hd.foot,hd.base,hd.pos,hd.few,hd.ats,hd.acts⟩
theorem geom {g b:Nat} (h:KeepT T A B) (hg:GeomAt A g b) (h1:138∉T):GeomAt B g b:=⟨h.blk hg.blk h1,hg.pos,hg.few⟩
end KeepT
def YBE (LP:List Nat) (TP:List TypeId) (N:Nat) (A:World) (x:Nat):Prop:=(x∈LP∨N≤x)∧∃ cs t,A.heap[x]? = some (.cells cs t)∧t∈TP
def KBE (n:Nat) (P:Program) (gf:Nat) (lb:Array Value) (encs:α→Array Value) (Fx:List α→α→World→Prop) (LP:List Nat) (TP TC:List TypeId) (S:List α→World→Prop) (w:World):Prop:=
 ∀ (l:Nat) (J:List α→World→Prop) (W:World),Keep [] w W→w.heap.size+2≤W.heap.size→(∀ s A B L,J s A→Keep L A B→(∀ x∈L,YBE LP TP w.heap.size A x)→J s B)→(∀ s,Zq W.heap.size (J s)) →
   (∀ pre x W1,J pre W1→Fx pre x W1→YieldAt Fence.wide (n-1) P l (encs x) W1 fun e W'=>e=.returned (.bool true)∧J (pre++[x]) W'∧KeepT TC W1 W')→J [] W →
   CallsIn Fence.wide n P gf (#[.func (.yield l) #[] #[]]++lb) W fun e W'=>(∃ v,e=.returned v)∧∃ xs,S xs W'∧J xs W'
def KAv (TC:List TypeId) (I:World→Prop) (W:World):Exit→Act→World→Prop
 | .normal,_,W'=>KeepT TC W W'∧I W'
 | _,_,_=>False
theorem ZU {n:Nat} {g:Operand} {ps:Array Tmp} {assign body:Code} {Q:Exit→Act→World→Prop} {a:Act} {w:World} {gf:Nat} {lb:Array Value}
 (hg:a.eval g=.func (.func gf) #[] lb) (eg:∀ args w,(callFunc gf args).run P w=.ok (.enter gf args) w)
 {encs:α→Array Value} {Fx:List α→α→World→Prop} {LP:List Nat} {TP TC:List TypeId} {S:List α→World→Prop} (hSb:∀ xs,Zq w.heap.size (S xs)) (hseq:KBE (n-1) P gf lb encs Fx LP TP TC S w) (hps:∀ x,(encs x).size=ps.size) (hLP:∀ x∈LP,x<w.heap.size)
 (I:List α→World→Prop) (hI:∀ s A B L,I s A→Keep L A B→(∀ x∈L,YBE LP TP w.heap.size A x)→I s B) (hIb:∀ s,Zq w.heap.size (I s)) (hFk:∀ pre x A B,Fx pre x A→Keep [] A B→Fx pre x B) (hFb:∀ pre x,Zq w.heap.size (Fx pre x)) (h0:I [] w)
 (Ax:α→Act→World→Prop) (hAb:∀ x a',Zq w.heap.size (Ax x a'))
 (hassign:∀ (l:Nat) (pre:List α) (x:α) (W:World) (K:Act→World→Prop),I pre W→Fx pre x W→(∀ a' W',Keep [] W W'→Ax x a' W'→K a' W') →
   assign.wpIn (Fence.wide.inRound l) (n-1-1) P (Exit.then K (fun _ _ _=>False)) { tmps:=(ps.zip (encs x)).foldl (fun t (p,v)=>t.setIfInBounds p v) a.tmps,defers:=[] } W)
 (hbody:∀ (l:Nat) (pre:List α) (x:α) (a':Act) (W:World),I pre W→Fx pre x W→Ax x a' W→body.wpIn (Fence.wide.inRound l) (n-1-1) P (KAv TC (I (pre++[x])) W) a' W)
 (hdone:∀ (D:Nat) (xs:List α) (W:World),w.heap.size≤D→S xs W→I xs W→W.heap[D]? = some (.deferred (some []))→Q .normal { a with defers:={ target:=.collected D,args:=#[] } :: a.defers } W) :
 (Code.rangeFunc g ps assign body).wpIn Fence.wide n P Q a w:=by
 obtain⟨d,hd⟩:∃ d,d=w.heap.size:=⟨_,rfl⟩
 refine wpIn_rangeFunc fun fn _=>?_
 let ready:Loop:={ state:=.ready,pending:=none,fn,tmps:=a.tmps,params:=ps,assign,body,defers:=d }
 let busy:Loop:={ ready with state:=.busy }
 let wl:=(w.alloc (.deferred (some []))).alloc (.loop ready)
 have hwl:Keep [] w wl:=((Keep.refl _ _).alloc _).alloc _
 have hrec:wl.heap[d+1]? = some (.loop ready):=by
  have:=World.alloc_heap_new (w.alloc (.deferred (some []))) (.loop ready)
  rwa [World.size_alloc,← hd] at this
 have hdef:wl.heap[d]? = some (.deferred (some [])):=by
  have h1:(w.alloc (.deferred (some []))).heap[d]? = some (.deferred (some [])):=by rw[hd];exact World.alloc_heap_new w _
  exact Keep.heap_same ((Keep.refl [] _).alloc _) h1
 refine⟨d+1,[{ target:=.collected d,args:=#[] }],wl,{ target:=.fn (.func gf) lb,args:=#[.func (.yield (d+1)) #[] #[]] },wl,gf,#[.func (.yield (d+1)) #[] #[]]++lb,wl,?_,?_,fun _ _=>trivial,?_,fun h=>by simp[Fence.wide] at h,?_⟩
 · rw[hd];simp only[ready,wl,hd];exact run_enterLoop_outer _ _ _ _ _
 · simp only[resolve,hg]
   simp[go_sem]
 · simp[invoke,go_sem,eg]
 let J:List α→World→Prop:=fun pre W=>I pre W∧W.heap[d+1]? = some (.loop ready)∧W.heap[d]? = some (.deferred (some []))
 have hwls:wl.heap.size=d+2:=by simp only[wl,World.size_alloc,hd]
 have hrk:∀ {L:List Nat} {A B:World} {k:Nat} {o:Obj},Keep L A B→(∀ x∈L,YBE LP TP w.heap.size A x)→A.heap[k]? = some o→o.isCells=false→B.heap[k]? = some o:=fun {L A B k o} hk hL ho hc=>
  (hk.block k (Array.getElem?_eq_some_iff.1 ho).1 (fun hm=>by
    obtain⟨-,cs,t,h1,-⟩:=hL k hm
    rw[h1] at ho
    cases ho
    cases hc)).trans ho
 refine(hseq (d+1) J wl hwl (by omega) (fun s A B L h hk hL=>⟨hI s A B L h.1 hk hL,hrk hk hL h.2.1 rfl,hrk hk hL h.2.2 rfl⟩) (fun s W l o o' h hl hg ho=>⟨hIb s W l o o' h.1 (by omega) hg ho,(World.putObj_heap_other (by omega)).trans h.2.1,(World.putObj_heap_other (by omega)).trans h.2.2⟩) ?round ⟨hI _ _ _ [] h0 hwl (by simp),hrec,hdef⟩).mono ?behind
 case behind=>
  rintro e W ⟨⟨v,rfl⟩,xs,hS,hI',hr,hk⟩
  exact⟨none,_,run_endLoop hr (by simp[ready]),hdone d xs _ (Nat.le_of_eq hd.symm) (hSb xs W _ _ _ hS (by omega) hr rfl) (hIb xs W _ _ _ hI' (by omega) hr rfl) ((World.putObj_heap_other (by omega)).trans hk)⟩
 case round=>
  rintro pre x W ⟨hI1,hr,hk⟩ hF
  refine⟨fn,_,assign,body,run_yield hr (hps x),roundIn_of_wpIn trivial (hassign _ pre x W _ hI1 hF (fun a' W' hkW hA=>⟨_,run_beginRound (hkW.heap_same hr) rfl,?_⟩))⟩
  have hr':=hkW.heap_same hr
  have hk':=hkW.heap_same hk
  have hlt:d+1<W'.heap.size:=(Array.getElem?_eq_some_iff.1 hr').1
  let Wb:=W'.putObj (d+1) (.loop busy)
  have hbr:Wb.heap[d+1]? = some (.loop busy):=World.putObj_heap_same hlt
  have hbk:Wb.heap[d]? = some (.deferred (some [])):=(World.putObj_heap_other (by omega)).trans hk'
  have hge:w.heap.size≤d+1:=by omega
  refine wpIn_mono (hbody _ pre x a' Wb (hIb pre W' _ _ _ (hI pre W W' [] hI1 hkW (by simp)) hge hr' rfl) (hFb pre x W' _ _ _ (hFk _ _ _ _ hF hkW) hge hr' rfl) (hAb x a' W' _ _ _ hA hge hr' rfl)) ?_
  intro e a3 W3 hp
  cases e with
  | normal=>
    obtain⟨hK3,hI3⟩:=hp
    have hr3:=hK3.same _ _ hbr (fun _ _ e=>by cases e)
    have hd3:=hK3.same _ _ hbk (fun _ _ e=>by cases e)
    have hl3:=(Array.getElem?_eq_some_iff.1 hr3).1
    refine⟨_,_,run_endRound none hr3,rfl,⟨hIb _ W3 _ _ _ hI3 hge hr3 rfl,World.putObj_heap_same hl3,(World.putObj_heap_other (by omega)).trans hd3⟩,?_,fun k o ho ht=>?_⟩
    · have h1:=hkW.size
      have h2:W'.heap.size=Wb.heap.size:=World.putObj_size.symm
      have h3:=hK3.size
      rw[World.putObj_size]
      omega
    · by_cases hkd:k=d+1
      · subst hkd
        rw[hr] at ho
        cases ho
        exact World.putObj_heap_same hl3
      · have h1:=hkW.heap_same ho
        have h2:Wb.heap[k]? = some o:=(World.putObj_heap_other (by omega)).trans h1
        exact(World.putObj_heap_other (by omega)).trans (hK3.same k o h2 ht)
  | ret=>exact hp.elim
  | exit _=>exact hp.elim
  | goto _=>exact hp.elim
  | panic _=>exact hp.elim
  | outgrown=>exact hp.elim
end
end Go.Proofs.YthgphmfipnjllaaGreat
