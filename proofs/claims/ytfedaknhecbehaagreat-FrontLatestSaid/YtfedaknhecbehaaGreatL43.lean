/- Lemmas of the proof, with their conditions. -/
import Derived.Test.YtfedaknhecbehaaGreatL16
import Derived.Test.YtfedaknhecbehaaGreatL14
namespace Go.Proofs.YtfedaknhecbehaaGreat
open Tryz
variable {b base n:Nat} {t:TypeId} {v:Value}
set_option linter.all false
section
open Go.RowKit
variable {P:Program} {α:Type}
structure KeepT (T:List TypeId) (A B:World):Prop where
 size:A.heap.size<=B.heap.size
 same:∀ (k:Nat) (o:Obj),A.heap[k]? = some o->(∀ cs t,o=Obj.cells cs t->t∉T)->B.heap[k]? = some o
namespace KeepT
variable {T:List TypeId} {A B C:World}
theorem refl (A:World):KeepT T A A:=⟨AG _,fun _ _ h _=>h⟩
theorem trans (h:KeepT T A B) (k:KeepT T B C):KeepT T A C:=⟨AA h.size k.size,fun i o hi a=>k.same i o (h.same i o hi a) a⟩
theorem ofKeep {L:List Nat} (h:Keep L A B) (b:∀ x∈L,∃ cs t,A.heap[x]? = some (.cells cs t)/\t∈T):KeepT T A B:=
 ⟨h.size,fun k o a c=>(h.block k (AI.1 a).1 (fun d=>by
   obtain⟨cs,t,e,f⟩:=b k d;rw[e] at a;exact c cs t (CD a).symm f)).trans a⟩
theorem of0 (h:kz A B):KeepT T A B:=ofKeep h sq
theorem blk {cs:Array Value} (h:KeepT T A B) (a:Blk A b t cs) (c:t∉T):Blk B b t cs:=h.same b _ a (fun d f e=>by cases e;exact c)
theorem box (h:KeepT T A B) (a:Boxed A b t v) (c:t∉T):Boxed B b t v:=h.same b _ a (fun d f e=>by cases e;exact c)
theorem own {s:Nat} {e:TypeId} {xs:List Value} (h:KeepT T A B) (a:A.ownsRow base e s v n xs) (b:e∉T):B.ownsRow base e s v n xs:=by
 refine⟨a.1,?_⟩;rcases a.2 with a | ⟨g,cap,c,rfl,d,f,r⟩
 . exact .inl a
 exact .inr ⟨g,cap,c,rfl,d,h.same g _ f (fun i j e=>by cases e;exact b),r⟩
theorem disk {d:Nat} {F:List Nat} {D:PDisk} (h:KeepT T A B) (a:DiskAt A base d F D) (c:186∉T) (b:290∉T) (e:292∉T) (f:4∉T):DiskAt B base d F D:=by
 obtain⟨S,N,H,U,a⟩:=a;exact⟨S,N,H,U,h.blk a.blk c,h.own a.safe b,h.own a.now b,h.own a.held e,h.own a.flt f,a.ne,a.foot,a.base,a.pos,a.few,a.ats,a.acts⟩
theorem geom {g:Nat} (h:KeepT T A B) (a:GeomAt A g b) (c:175∉T):GeomAt B g b:=⟨h.blk a.blk c,a.pos,a.few⟩
end KeepT
def JBq (LP:List Nat) (TP:List TypeId) (N:Nat) (A:World) (x:Nat):Prop:=(x∈LP\/N<=x)/\∃ cs t,A.heap[x]? = some (.cells cs t)/\t∈TP
def QBr (n:Nat) (P:Program) (gf:Nat) (lb:Array Value) (encs:α->Array Value) (Fx:List α->α->World->Prop) (LP:List Nat) (TP TC:List TypeId) (S:List α->World->Prop) (w:World):Prop:=
 ∀ (l:Nat) (J:List α->World->Prop) (W:World),kz w W->w.heap.size+2<=W.heap.size->(∀ s A B L,J s A->Keep L A B->(∀ x∈L,JBq LP TP w.heap.size A x)->J s B)->(∀ s,Qo W.heap.size (J s)) ->
   (∀ pre x W1,J pre W1->Fx pre x W1->YieldAt Fence.wide (n-1) P l (encs x) W1 fun e W'=>e=.returned (.bool true)/\J (pre++[x]) W'/\KeepT TC W1 W')->J [] W ->
   CallsIn Fence.wide n P gf (#[.func (.yield l) #[] #[]]++lb) W fun e W'=>(∃ v,e=.returned v)/\∃ xs,S xs W'/\J xs W'
def JBb (TC:List TypeId) (I:World->Prop) (W:World):Exit->Act->World->Prop
 | .normal,_,W'=>KeepT TC W W'/\I W'
 | _,_,_=>False
theorem Qz {g:Operand} {E:Array Tmp} {assign body:Code} {Q:Exit->Act->World->Prop} {a:Act} {w:World} {gf:Nat} {lb:Array Value}
 (O:a.eval g=.func (.func gf) #[] lb) (eg:∀ Y w,(callFunc gf Y).run P w=.ok (.enter gf Y) w)
 {R:α->Array Value} {r:List α->α->World->Prop} {F:List Nat} {T a0:List TypeId} {S:List α->World->Prop} (a6:∀ xs,Qo w.heap.size (S xs)) (a7:QBr (n-1) P gf lb R r F T a0 S w) (a8:∀ x,(R x).size=E.size) (aw:∀ x∈F,x<w.heap.size)
 (I:List α->World->Prop) (U:∀ s A B L,I s A->Keep L A B->(∀ x∈L,JBq F T w.heap.size A x)->I s B) (G:∀ s,Qo w.heap.size (I s)) (a9:∀ b x A B,r b x A->kz A B->r b x B) (aa:∀ b x,Qo w.heap.size (r b x)) (h0:I [] w)
 (V:α->Act->World->Prop) (ab:∀ x c,Qo w.heap.size (V x c))
 (ac:∀ (l:Nat) (b:List α) (x:α) (W:World) (K:Act->World->Prop),I b W->r b x W->(∀ c W',kz W W'->V x c W'->K c W') ->
   assign.wpIn (Fence.wide.inRound l) (n-1-1) P (Exit.then K (fun _ _ _=>False)) { tmps:=(E.zip (R x)).foldl (fun t (p,v)=>t.setIfInBounds p v) a.tmps,defers:=[] } W)
 (ad:∀ (l:Nat) (b:List α) (x:α) (c:Act) (W:World),I b W->r b x W->V x c W->body.wpIn (Fence.wide.inRound l) (n-1-1) P (JBb a0 (I (b++[x])) W) c W)
 (ae:∀ (D:Nat) (xs:List α) (W:World),w.heap.size<=D->S xs W->I xs W->W.heap[D]? = some (.deferred (some []))->Q .normal { a with defers:={ target:=.collected D,args:=#[] } :: a.defers } W) :
 (Code.rangeFunc g E assign body).wpIn Fence.wide n P Q a w:=by
 obtain⟨d,u⟩:=ex w.heap.size;refine wpIn_rangeFunc fun fn _=>?_
 let ready:Loop:={ state:=.ready,pending:=none,fn,tmps:=a.tmps,params:=E,assign,body,defers:=d }
 let busy:Loop:={ ready with state:=.busy }
 let wl:=(w.alloc (.deferred (some []))).alloc (.loop ready)
 have a1:kz w wl:=(kq.alloc _).alloc _
 have af:wl.heap[d+1]? = some (.loop ready):=by
  have:=World.alloc_heap_new (w.alloc (.deferred (some []))) (.loop ready)
  rwa [AN,<- u] at this
 have ag:wl.heap[d]? = some (.deferred (some [])):=by
  have y:(w.alloc (.deferred (some []))).heap[d]? = some (.deferred (some [])):=by rw[u];exact World.alloc_heap_new w _
  exact Keep.heap_same ((Keep.refl [] _).alloc _) y
 refine⟨d+1,[{ target:=.collected d,args:=#[] }],wl,{ target:=.fn (.func gf) lb,args:=#[.func (.yield (d+1)) #[] #[]] },wl,gf,#[.func (.yield (d+1)) #[] #[]]++lb,wl,?_,?_,fun _ _=>trivial,?_,fun h=>by simp[Fence.wide] at h,?_⟩
 . rw[u];simp only[ready,wl,u];exact run_enterLoop_outer _ _ _ _ _
 . simp only[resolve,O]
   simp[go_sem]
 . simp[invoke,go_sem,eg]
 let J:List α->World->Prop:=fun b W=>I b W/\W.heap[d+1]? = some (.loop ready)/\W.heap[d]? = some (.deferred (some []))
 have ax:wl.heap.size=d+2:=by simp only[wl,AN,u]
 have a2:∀ {L:List Nat} {A B:World} {k:Nat} {o:Obj},Keep L A B->(∀ x∈L,JBq F T w.heap.size A x)->A.heap[k]? = some o->o.isCells=false->B.heap[k]? = some o:=fun {L A B k o} i C f hc=>
  (i.block k (AI.1 f).1 (fun hm=>by
    obtain⟨-,cs,t,y,-⟩:=C k hm;rw[y] at f;cases f;cases hc)).trans f
 refine(a7 (d+1) J wl a1 Z (fun s A B L h i C=>⟨U s A B L h.1 i C,a2 i C h.2.1 rfl,a2 i C h.2.2 rfl⟩) (fun s W l o ah h hl O f=>⟨G s W l o ah h.1 Z O f,(World.putObj_heap_other Z).trans h.2.1,(World.putObj_heap_other Z).trans h.2.2⟩) ?round ⟨U _ _ _ [] h0 a1 sq,af,ag⟩).mono ?behind
 case behind=>
  rintro e W ⟨⟨v,rfl⟩,xs,ai,aj,j,i⟩;exact⟨none,_,run_endLoop j (by simp[ready]),ae d xs _ (Ap u.symm) (a6 xs W _ _ _ ai Z j rfl) (G xs W _ _ _ aj Z j rfl) ((World.putObj_heap_other Z).trans i)⟩
 rintro b x W ⟨a3,j,i⟩ a4;refine⟨fn,_,assign,body,run_yield j (a8 x),roundIn_of_wpIn trivial (ac _ b x W _ a3 a4 (fun c W' m ak=>⟨_,run_beginRound (m.heap_same j) rfl,?_⟩))⟩;have H:=m.heap_same j;have al:=m.heap_same i;have am:d+1<W'.heap.size:=(AI.1 H).1
 let Wb:=W'.putObj (d+1) (.loop busy)
 have an:Wb.heap[d+1]? = some (.loop busy):=World.putObj_heap_same am;have ao:Wb.heap[d]? = some (.deferred (some [])):=(World.putObj_heap_other Z).trans al;have M:w.heap.size<=d+1:=Z;refine Dv (ad _ b x c Wb (G b W' _ _ _ (U b W W' [] a3 m sq) M H rfl) (aa b x W' _ _ _ (a9 _ _ _ _ a4 m) M H rfl) (ab x c W' _ _ _ ak M H rfl)) ?_;intro e ay ap z
 cases e with
 | normal=>
   obtain⟨N,ar⟩:=z;have X:=N.same _ _ an (fun _ _ e=>by cases e);have au:=N.same _ _ ao (fun _ _ e=>by cases e);have a5:=(AI.1 X).1;refine⟨_,_,run_endRound none X,rfl,⟨G _ ap _ _ _ ar M X rfl,World.putObj_heap_same a5,(World.putObj_heap_other Z).trans au⟩,?_,fun k o f ht=>?_⟩
   . have y:=m.size
     have h2:W'.heap.size=Wb.heap.size:=World.putObj_size.symm;have h3:=N.size;rw[World.putObj_size];omega
   . by_cases av:k=d+1
     . subst av
       rw[j] at f;cases f;exact World.putObj_heap_same a5
     . have y:=m.heap_same f
       have h2:Wb.heap[k]? = some o:=(World.putObj_heap_other Z).trans y
       exact(World.putObj_heap_other Z).trans (N.same k o h2 ht)
 | ret=>exact z.elim
 | exit _=>exact z.elim
 | goto _=>exact z.elim
 | panic _=>exact z.elim
 | outgrown=>exact z.elim