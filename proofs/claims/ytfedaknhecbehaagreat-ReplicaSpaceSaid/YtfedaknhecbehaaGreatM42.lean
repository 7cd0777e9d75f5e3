/- Lemmas of the proof, with their conditions. -/
import Derived.Test.YtfedaknhecbehaaGreatM15
import Derived.Test.YtfedaknhecbehaaGreatM13
namespace Go.Proofs.YtfedaknhecbehaaGreat
open Tryz
variable {b base n:Nat} {t:TypeId} {v:Value}
set_option linter.all false
section
open Go.RowKit
variable {P:Program} {α:Type}
structure KeepT (T:List TypeId) (A B:World):Prop where
 size:A.heap.size<=B.heap.size
 same:∀ (k:Nat) (o:Obj),A.heap[k]? = some o->(∀ cs t,o=Obj.cells cs t->t∉T)->B.heap[k]? = some o
namespace KeepT
variable {T:List TypeId} {A B C:World}
theorem refl (A:World):KeepT T A A:=⟨AG _,fun _ _ h _=>h⟩
theorem trans (h:KeepT T A B) (k:KeepT T B C):KeepT T A C:=⟨AB h.size k.size,fun i o hi a=>k.same i o (h.same i o hi a) a⟩
theorem ofKeep {L:List Nat} (h:Keep L A B) (b:∀ x∈L,∃ cs t,A.heap[x]? = some (.cells cs t)/\t∈T):KeepT T A B:=
 ⟨h.size,fun k o a c=>(h.block k (AR.1 a).1 (fun d=>by
   obtain⟨cs,t,e,f⟩:=b k d;rw[e] at a;exact c cs t (C0 a).symm f)).trans a⟩
theorem of0 (h:kz A B):KeepT T A B:=ofKeep h sq
theorem blk {cs:Array Value} (h:KeepT T A B) (a:Blk A b t cs) (c:t∉T):Blk B b t cs:=h.same b _ a (fun d f e=>by cases e;exact c)
theorem box (h:KeepT T A B) (a:Boxed A b t v) (c:t∉T):Boxed B b t v:=h.same b _ a (fun d f e=>by cases e;exact c)
theorem own {s:Nat} {e:TypeId} {xs:List Value} (h:KeepT T A B) (a:A.ownsRow base e s v n xs) (b:e∉T):B.ownsRow base e s v n xs:=by
 refine⟨a.1,?_⟩;rcases a.2 with a | ⟨g,cap,c,rfl,d,f,r⟩
 . exact .inl a
 exact .inr ⟨g,cap,c,rfl,d,h.same g _ f (fun i j e=>by cases e;exact b),r⟩
theorem disk {d:Nat} {F:List Nat} {D:PDisk} (h:KeepT T A B) (a:DiskAt A base d F D) (c:186∉T) (b:290∉T) (e:292∉T) (f:4∉T):DiskAt B base d F D:=by
 obtain⟨S,N,H,U,a⟩:=a;exact⟨S,N,H,U,h.blk a.blk c,h.own a.safe b,h.own a.now b,h.own a.held e,h.own a.flt f,a.ne,a.foot,a.base,a.pos,a.few,a.ats,a.acts⟩
theorem geom {g:Nat} (h:KeepT T A B) (a:GeomAt A g b) (c:175∉T):GeomAt B g b:=⟨h.blk a.blk c,a.pos,a.few⟩
end KeepT
def XBm (LP:List Nat) (TP:List TypeId) (N:Nat) (A:World) (x:Nat):Prop:=(x∈LP\/N<=x)/\∃ cs t,A.heap[x]? = some (.cells cs t)/\t∈TP
def QBn (n:Nat) (P:Program) (gf:Nat) (lb:Array Value) (encs:α->Array Value) (Fx:List α->α->World->Prop) (LP:List Nat) (TP TC:List TypeId) (S:List α->World->Prop) (w:World):Prop:=
 ∀ (l:Nat) (J:List α->World->Prop) (W:World),kz w W->w.heap.size+2<=W.heap.size->(∀ s A B L,J s A->Keep L A B->(∀ x∈L,XBm LP TP w.heap.size A x)->J s B)->(∀ s,Kn W.heap.size (J s)) ->
   (∀ pre x W1,J pre W1->Fx pre x W1->YieldAt Fence.wide (n-1) P l (encs x) W1 fun e W'=>e=.returned (.bool true)/\J (pre++[x]) W'/\KeepT TC W1 W')->J [] W ->
   CallsIn Fence.wide n P gf (#[.func (.yield l) #[] #[]]++lb) W fun e W'=>(∃ v,e=.returned v)/\∃ xs,S xs W'/\J xs W'
def JBV (TC:List TypeId) (I:World->Prop) (W:World):Exit->Act->World->Prop
 | .normal,_,W'=>KeepT TC W W'/\I W'
 | _,_,_=>False
theorem Jz {g:Operand} {z:Array Tmp} {assign body:Code} {Q:Exit->Act->World->Prop} {a:Act} {w:World} {gf:Nat} {lb:Array Value}
 (M:a.eval g=.func (.func gf) #[] lb) (eg:∀ V w,(callFunc gf V).run P w=.ok (.enter gf V) w)
 {N:α->Array Value} {Fx:List α->α->World->Prop} {C:List Nat} {O X:List TypeId} {S:List α->World->Prop} (a4:∀ xs,Kn w.heap.size (S xs)) (a5:QBn (n-1) P gf lb N Fx C O X S w) (a6:∀ x,(N x).size=z.size) (au:∀ x∈C,x<w.heap.size)
 (I:List α->World->Prop) (R:∀ s A B L,I s A->Keep L A B->(∀ x∈L,XBm C O w.heap.size A x)->I s B) (E:∀ s,Kn w.heap.size (I s)) (a7:∀ b x A B,Fx b x A->kz A B->Fx b x B) (a8:∀ b x,Kn w.heap.size (Fx b x)) (h0:I [] w)
 (T:α->Act->World->Prop) (a9:∀ x c,Kn w.heap.size (T x c))
 (aa:∀ (l:Nat) (b:List α) (x:α) (W:World) (K:Act->World->Prop),I b W->Fx b x W->(∀ c W',kz W W'->T x c W'->K c W') ->
   assign.wpIn (Fence.wide.inRound l) (n-1-1) P (Exit.then K (fun _ _ _=>False)) { tmps:=(z.zip (N x)).foldl (fun t (p,v)=>t.setIfInBounds p v) a.tmps,defers:=[] } W)
 (ab:∀ (l:Nat) (b:List α) (x:α) (c:Act) (W:World),I b W->Fx b x W->T x c W->body.wpIn (Fence.wide.inRound l) (n-1-1) P (JBV X (I (b++[x])) W) c W)
 (ac:∀ (D:Nat) (xs:List α) (W:World),w.heap.size<=D->S xs W->I xs W->W.heap[D]? = some (.deferred (some []))->Q .normal { a with defers:={ target:=.collected D,args:=#[] } :: a.defers } W) :
 (Code.rangeFunc g z assign body).wpIn Fence.wide n P Q a w:=by
 obtain⟨d,q⟩:=ex w.heap.size;refine wpIn_rangeFunc fun fn _=>?_
 let ready:Loop:={ state:=.ready,pending:=none,fn,tmps:=a.tmps,params:=z,assign,body,defers:=d }
 let busy:Loop:={ ready with state:=.busy }
 let wl:=(w.alloc (.deferred (some []))).alloc (.loop ready)
 have Y:kz w wl:=(kq.alloc _).alloc _
 have ad:wl.heap[d+1]? = some (.loop ready):=by
  have:=World.alloc_heap_new (w.alloc (.deferred (some []))) (.loop ready)
  rwa [AM,<- q] at this
 have ae:wl.heap[d]? = some (.deferred (some [])):=by
  have r:(w.alloc (.deferred (some []))).heap[d]? = some (.deferred (some [])):=by rw[q];exact World.alloc_heap_new w _
  exact Keep.heap_same ((Keep.refl [] _).alloc _) r
 refine⟨d+1,[{ target:=.collected d,args:=#[] }],wl,{ target:=.fn (.func gf) lb,args:=#[.func (.yield (d+1)) #[] #[]] },wl,gf,#[.func (.yield (d+1)) #[] #[]]++lb,wl,?_,?_,fun _ _=>trivial,?_,fun h=>by simp[Fence.wide] at h,?_⟩
 . rw[q];simp only[ready,wl,q];exact run_enterLoop_outer _ _ _ _ _
 . simp only[resolve,M]
   simp[go_sem]
 . simp[invoke,go_sem,eg]
 let J:List α->World->Prop:=fun b W=>I b W/\W.heap[d+1]? = some (.loop ready)/\W.heap[d]? = some (.deferred (some []))
 have av:wl.heap.size=d+2:=by simp only[wl,AM,q]
 have a0:∀ {L:List Nat} {A B:World} {k:Nat} {o:Obj},Keep L A B->(∀ x∈L,XBm C O w.heap.size A x)->A.heap[k]? = some o->o.isCells=false->B.heap[k]? = some o:=fun {L A B k o} i y f hc=>
  (i.block k (AR.1 f).1 (fun hm=>by
    obtain⟨-,cs,t,r,-⟩:=y k hm;rw[r] at f;cases f;cases hc)).trans f
 refine(a5 (d+1) J wl Y Z (fun s A B L h i y=>⟨R s A B L h.1 i y,a0 i y h.2.1 rfl,a0 i y h.2.2 rfl⟩) (fun s W l o af h hl M f=>⟨E s W l o af h.1 Z M f,(World.putObj_heap_other Z).trans h.2.1,(World.putObj_heap_other Z).trans h.2.2⟩) ?round ⟨R _ _ _ [] h0 Y sq,ad,ae⟩).mono ?behind
 case behind=>
  rintro e W ⟨⟨v,rfl⟩,xs,ag,ah,j,i⟩;exact⟨none,_,run_endLoop j (by simp[ready]),ac d xs _ (Ar q.symm) (a4 xs W _ _ _ ag Z j rfl) (E xs W _ _ _ ah Z j rfl) ((World.putObj_heap_other Z).trans i)⟩
 rintro b x W ⟨a1,j,i⟩ a2;refine⟨fn,_,assign,body,run_yield j (a6 x),roundIn_of_wpIn trivial (aa _ b x W _ a1 a2 (fun c W' m ai=>⟨_,run_beginRound (m.heap_same j) rfl,?_⟩))⟩;have F:=m.heap_same j;have aj:=m.heap_same i;have ak:d+1<W'.heap.size:=(AR.1 F).1
 let Wb:=W'.putObj (d+1) (.loop busy)
 have al:Wb.heap[d+1]? = some (.loop busy):=World.putObj_heap_same ak;have am:Wb.heap[d]? = some (.deferred (some [])):=(World.putObj_heap_other Z).trans aj;have G:w.heap.size<=d+1:=Z
 refine wpIn_mono (ab _ b x c Wb (E b W' _ _ _ (R b W W' [] a1 m sq) G F rfl) (a8 b x W' _ _ _ (a7 _ _ _ _ a2 m) G F rfl) (a9 x c W' _ _ _ ai G F rfl)) ?_;intro e aw an u
 cases e with
 | normal=>
   obtain⟨H,ao⟩:=u;have U:=H.same _ _ al (fun _ _ e=>by cases e);have ap:=H.same _ _ am (fun _ _ e=>by cases e);have a3:=(AR.1 U).1;refine⟨_,_,run_endRound none U,rfl,⟨E _ an _ _ _ ao G U rfl,World.putObj_heap_same a3,(World.putObj_heap_other Z).trans ap⟩,?_,fun k o f ht=>?_⟩
   . have r:=m.size
     have h2:W'.heap.size=Wb.heap.size:=World.putObj_size.symm;have h3:=H.size;rw[World.putObj_size];omega
   . by_cases ar:k=d+1
     . subst ar
       rw[j] at f;cases f;exact World.putObj_heap_same a3
     . have r:=m.heap_same f
       have h2:Wb.heap[k]? = some o:=(World.putObj_heap_other Z).trans r
       exact(World.putObj_heap_other Z).trans (H.same k o h2 ht)
 | ret=>exact u.elim
 | exit _=>exact u.elim
 | goto _=>exact u.elim
 | panic _=>exact u.elim
 | outgrown=>exact u.elim