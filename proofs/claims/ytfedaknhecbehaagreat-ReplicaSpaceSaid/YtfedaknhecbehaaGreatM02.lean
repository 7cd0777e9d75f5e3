/- Lemmas of the proof, with their conditions. -/
import Derived.Test.YtfedaknhecbehaaGreatM01
import Derived.StillTail
namespace Go.Proofs.YtfedaknhecbehaaGreat
open Tryz Go.RowKit
variable {n g id b s base k:Nat} {v:Value} {l:List Oper} {Lq K:Act->World->Prop} {w1 w2:World} {xs:List Value} {cs:Array Value} {o'':Oper} {N:List Nat}
set_option linter.all false
section
open Go.RowKit
variable {P:Program} {ops:Array Oper} {md:Region.Mode} {S:World->Prop} {Q:Exit->Act->World->Prop}
def ZBV (P:Program) (md:Region.Mode) (ops:Array Oper) (Q:Exit->Act->World->Prop) (S:World->Prop) (n:Nat) (L:Array Bool->Act->World->Prop):Nat->Array Bool->Act->World->Prop
 | 0,listed,a,w=>L listed a w
 | f+1,listed,a,w=>
   Region.ready md ops listed≠[]/\∀ i∈Region.ready md ops listed,i<n/\wpOp P ops Q i (fun a' w'=>S w'/\ZBV P md ops Q S n L f (listed.setIfInBounds i true) a' w') a w
theorem XQ {L:Array Bool->Act->World->Prop} (c:∀ b a w,L b a w->wpAny P md ops Q g b a w) :
 ∀ (f:Nat) (b:Array Bool) (a:Act) (w:World),ZBV P md ops Q S n L f b a w->wpAny P md ops Q (f+g) b a w
 | 0,b,a,w,h=>by rw[BB];exact c _ _ _ h
 | f+1,b,a,w,h=>by
   rw[show f+1+g=(f+g)+1 from Z];exact⟨fun d=>absurd d h.1,fun i hi=>Br (fun e w' j=>XQ c f _ e w' j.2) (h.2 i hi).2⟩
theorem Zn {i:Nat} {q:Oper} {L:Array Bool->Act->World->Prop} (hi:ops[i]? = some q) (E:∀ (j:Nat) (o:Oper) cs b,ops[j]? = some o->o.op≠.select cs b)
 (F:n=ops.size\/Region.sinkB md ops n=true) (G:Region.chainB md ops n=true) (hn:n<=ops.size) (I:i<n)
 (N:∀ d a w,L d a w->∀ j∈Region.ready md ops d,n<=j) (O:∀ c a w,Q (.panic c) (a.put q.dst v) w->Q (.panic c) a w) :
 ∀ (f:Nat) (d:Array Bool) (a:Act) (w:World),HeadInv md ops n d ->
   (∀ j g,ops[j]? = some g->j≠i->d.getD j true=false->(∀ e∈g.after,Region.binds md e=true->e.on≠i)->q.apart ops g=true) ->
   i∈Region.ready md ops d->YieldsIf P ops S q v a->S w ->
   ZBV P md ops Q S n L f (d.setIfInBounds i true) (a.put q.dst v) w->ZBV P md ops Q S n L (f+1) d a w:=by
 intro f
 induction f with
 | zero=>
   intro d a w z _ m A t H;have r:=(BU.1 m).1;refine⟨fun h=>(by rw[h] at m;cases m),fun j l=>?_⟩
   have B:j<n:=by
    rcases BG j n with h | h
    . exact h
    rcases BG n ops.size with u | u
    . exact absurd l (tail_waits (F.resolve_left Z) G u z _ i rfl I r j h)
    obtain⟨_,g,s,_⟩:=BU.1 l
    have:=(AR.1 s).1;omega
   refine⟨B,?_⟩;by_cases p:j=i
   . subst p;exact A.wpOp hi t ⟨t,H⟩
   . have:=N _ _ _ H j (ready_mono l p)
     omega
 | succ f ih=>
   intro d a w z J m A t H;have r:=(BU.1 m).1;refine⟨fun h=>(by rw[h] at m;cases m),fun j l=>?_⟩
   have B:j<n:=by
    rcases BG j n with h | h
    . exact h
    rcases BG n ops.size with u | u
    . exact absurd l (tail_waits (F.resolve_left Z) G u z _ i rfl I r j h)
    obtain⟨_,g,s,_⟩:=BU.1 l
    have:=(AR.1 s).1;omega
   refine⟨B,?_⟩;by_cases p:j=i
   . subst p;exact A.wpOp hi t ⟨t,H⟩
   have C:=(H.2 j (ready_mono l p)).2
   obtain⟨K,g,s,R⟩:=BU.1 l
   have T:∀ e∈g.after,Region.binds md e=true->e.on≠i:=fun e U V W=>by
    have C:=R e U V;rw[W,getD_both r] at C;cases C
   have X:=wpOp_putIf s (J j g s p K T) (fun cs b=>E i q cs b hi) (fun cs b=>E j g cs b s) O A C
   have Y:∀ k y,ops[k]? = some y->k≠i->(d.setIfInBounds j true).getD k true=false ->
    (∀ e∈y.after,Region.binds md e=true->e.on≠i)->q.apart ops y=true:=fun k y hk a0 r a1=>by
    refine J k y hk a0 ?_ a1;by_cases M:j=k
    . subst M;exact K
    rw[getD_set_ne true M] at r;exact r
   refine Br (fun a2 w' D=>⟨D.2.1,ih (d.setIfInBounds j true) a2 w' (z.set l B) Y (ready_mono m (Ne.symm p)) D.1 D.2.1 ?_⟩) X;rw[Array.setIfInBounds_comm _ _ p];exact D.2.2
def wpO (P:Program) (ops:Array Oper) (Q:Exit->Act->World->Prop) (o:Oper) (K:Act->World->Prop) (a:Act) (w:World):Prop:=
 if Region.wanted o (yielded ops a.tmps) then o.wp P a w K Q\/(o.asks P a w/\LetsOut Q) else K (a.put o.dst undef) w
def wpT (P:Program) (ops:Array Oper) (Q:Exit->Act->World->Prop) (S:World->Prop) (L:Act->World->Prop):List (Oper×Bool)->Act->World->Prop
 | [],a,w=>L a w
 | (o,false) :: rest,a,w=>∃ v,YieldsIf P ops S o v a/\wpT P ops Q S L rest (a.put o.dst v) w
 | (o,true) :: rest,a,w=>wpO P ops Q o (fun a' w'=>S w'/\wpT P ops Q S L rest a' w') a w
def YO (l:List Oper) (p:List (Nat×Bool)):List (Oper×Bool):=p.filterMap fun(i,b)=>(l[i]?).map fun o=>(o,b)
def Region.orderB (md:Region.Mode) (ops:Array Oper) (n g:Nat):List (Nat×Bool)->Array Bool->Bool
 | [],listed=>Region.seqB md ops g n listed
 | (k,false) :: p,listed=>decide (k<n) && (Region.ready md ops listed).contains k && Region.free md ops listed k && Region.orderB md ops n g p (listed.setIfInBounds k true)
 | (k,true) :: p,listed=>decide (k<n) && decide (Region.ready md ops listed=[k]) && Region.orderB md ops n g p (listed.setIfInBounds k true)
def Region.htB (md:Region.Mode) (ops:Array Oper) (n:Nat) (p:List (Nat×Bool)):Bool:=
 Region.noSelect ops && decide (n<=ops.size) && decide (p.length=n) && (decide (n=ops.size) || Region.sinkB md ops n) && Region.chainB md ops n && Region.orderB md ops n (ops.size-n) p (Array.replicate ops.size false)
theorem Xc (r:Region.noSelect l.toArray=true) (s:n=l.toArray.size\/Region.sinkB md l.toArray n=true) (t:Region.chainB md l.toArray n=true) (u:n<=l.toArray.size)
 (y:∀ c a d v w,Q (.panic c) (a.put d v) w->Q (.panic c) a w) :
 ∀ (p:List (Nat×Bool)) (b:Array Bool) (a:Act) (w:World),HeadInv md l.toArray n b->Region.orderB md l.toArray n g p b=true->S w ->
   wpT P l.toArray Q S Lq (YO l p) a w->ZBV P md l.toArray Q S n (fun D j w'=>Region.seqB md l.toArray g n D=true/\Lq j w') p.length b a w
 | [],b,a,w,_,hB,_,h=>⟨by simpa [Region.orderB] using hB,by simpa [YO,wpT] using h⟩
 | (k,false) :: p,b,a,w,inv,hB,hS,h=>by
   simp only[Region.orderB,Al,AY] at hB;obtain⟨⟨⟨m,q⟩,E⟩,z⟩:=hB;have e:k∈Region.ready md l.toArray b:=uq q
   obtain⟨_,o,f,_⟩:=BU.1 e;have A:l[k]? = some o:=uq f
   have B:YO l ((k,false) :: p)=(o,false) :: YO l p:=by simp[YO,A]
   rw[B] at h;obtain⟨v,F,G⟩:=h
   exact Zn f (Dg r) s t u m (fun D j w' H=>seqB_ready H.1) (fun c a w=>y c a _ _ w) p.length b a w inv (Dz f E) e F hS
    (Xc r s t u y p _ _ _ (inv.set e m) z hS G)
 | (k,true) :: p,b,a,w,inv,hB,hS,h=>by
   simp only[Region.orderB,Al,AY] at hB;obtain⟨⟨m,q⟩,z⟩:=hB;have e:k∈Region.ready md l.toArray b:=by rw[q];simp
   obtain⟨_,o,f,_⟩:=BU.1 e;have A:l[k]? = some o:=uq f
   have B:YO l ((k,true) :: p)=(o,true) :: YO l p:=by simp[YO,A]
   rw[B] at h;refine⟨fun I=>(by rw[I] at e;cases e),fun i hi=>?_⟩;rw[q] at hi;obtain rfl:i=k:=uq hi
   refine⟨m,?_⟩
   have J:wpOp P l.toArray Q i (fun j w'=>S w'/\wpT P l.toArray Q S Lq (YO l p) j w') a w:=by
    unfold wpOp;simp only[f];exact h
   exact Br (fun j w' C=>⟨C.1,Xc r s t u y p _ _ _ (inv.set e m) z C.1 C.2⟩) J
theorem YAL {a:Act} {w:World} {S:World->Prop} (n:Nat) (p:List (Nat×Bool)) (k:P.follows .mixedOrders=true) (b:Region.htB .any l.toArray n p=true)
 (m:∀ c a d v w,Q (.panic c) (a.put d v) w->Q (.panic c) a w) (o:S w.drew)
 (h:wpT P l.toArray Q S (wpList P l.toArray Q (l.drop n)) (YO l p) a w.drew):(Code.region id l.toArray true).wp P Q a w:=by
 simp only[Region.htB,Al,C1,AY] at b;obtain⟨⟨⟨⟨⟨q,r⟩,s⟩,u⟩,y⟩,z⟩:=b
 have A:HeadInv .any l.toArray n (Array.replicate l.toArray.size false):=
  ⟨sq,fun j E _ e=>(by rw[getD_replicate_false] at e;cases e),fun t _ B=>getD_in (uq B) (getD_replicate_false _ _)⟩
 have H:=Xc q u y r m p _ a w.drew A z o h;refine wp_region_any k ?_;have f:(l.drop n).length=l.toArray.size-n:=sq
 have:=XQ (Q:=Q) (g:=l.toArray.size-n) (fun C D w' i=>by
  have:=wpAny_of_seq (md:=.any) (Q':=Q) (l.drop n) n C D w' (fun j=>by simp[BT]) (by rw[f];exact i.1) i.2
  rwa [f] at this) _ _ _ _ H
 rw[s,show n+(l.toArray.size-n)=l.toArray.size from Z] at this;exact this
/-! ### The moves -/
section moves
variable {L:Act->World->Prop} {o:Oper} {rest:List (Oper×Bool)} {a:Act} {w:World}
theorem VB (h:L a w):wpT P ops Q S L [] a w:=h
theorem XV (v:Value) (b:Region.wanted o (yielded ops a.tmps)=true) (c:∀ w,S w->(execOp a.eval o).run P w=.ok (.value v) w) (h:wpT P ops Q S L rest (a.put o.dst v) w) :
 wpT P ops Q S L ((o,false) :: rest) a w:=⟨v,.inl ⟨b,c⟩,h⟩
theorem Xm (b:Region.wanted o (yielded ops a.tmps)=false) (h:wpT P ops Q S L rest (a.put o.dst undef) w) :
 wpT P ops Q S L ((o,false) :: rest) a w:=⟨undef,.inr ⟨b,rfl⟩,h⟩
theorem YX (b:Region.wanted o (yielded ops a.tmps)=false) (c:S w) (h:wpT P ops Q S L rest (a.put o.dst undef) w) :
 wpT P ops Q S L ((o,true) :: rest) a w:=by
 show wpO P ops Q o _ a w;unfold wpO;rw[AF (by rw[b];simp)];exact⟨c,h⟩
theorem JB (c:Region.wanted o (yielded ops a.tmps)=true) (h:∀ K:Act->World->Prop,(∀ b w',S w'->wpT P ops Q S L rest b w'->K b w')->o.wp P a w K Q) :
 wpT P ops Q S L ((o,true) :: rest) a w:=by
 show wpO P ops Q o _ a w;unfold wpO;rw[AJ c];exact .inl (h _ fun b w' d e=>⟨d,e⟩)
end moves
def OD:List (List Nat)->List (Nat×Bool)
 | []=>[]
 | q :: r=>q.map (fun k=>(k,false))++r.flatMap (fun s=>match s with | []=>[] | k :: q=>(k,true) :: q.map (fun k=>(k,false)))
theorem ZT {P:Program} {Q:Exit->Act->World->Prop} {a:Act} {w:World} (S:World->Prop) (n:Nat) (p:List (List Nat)) (b:S w.drew)
 (h:wpT P l.toArray Q S (wpList P l.toArray Q (l.drop n)) (YO l (OD p)) a w.drew) (e:P.follows .mixedOrders=true:=by kernel_rfl) (f:Region.htB .any l.toArray n (OD p)=true:=by kernel_rfl)
 (g:∀ c a d v w,Q (.panic c) (a.put d v) w->Q (.panic c) a w:=by exact fun _ _ d _ _ h=>by cases d <;> exact h):(Code.region id l.toArray true).wp P Q a w:=YAL (S:=S) n _ e f g b h
theorem ZH {P:Program} {ops:Array Oper} {S:World->Prop} {Q:Exit->Act->World->Prop} {L:Act->World->Prop} {o:Oper} {rest:List (Oper×Bool)} {a:Act} {w:World} (h:wpT P ops Q S L rest (a.put o.dst v) w) (b:Region.wanted o (yielded ops a.tmps)=true:=by rfl)
 (c:∀ w,S w->(execOp a.eval o).run P w=.ok (.value v) w:=by(intro W d;go_simp;try with_reducible rfl)):wpT P ops Q S L ((o,false) :: rest) a w:=XV v b c h
theorem PU {c:Type}:(∀ (l:List c) (i:Nat) (x:c),l.toArray.setIfInBounds i x=(l.set i x).toArray)/\(∀ (a b:c) (l:List c),(a :: l).set 0 b=b :: l)/\(∀ (a b:c) (l:List c) (n:Nat),(a :: l).set (n+1) b=a :: l.set n b):=⟨fun _ _ _=>AT ..,fun _ _ _=>rfl,fun _ _ _ _=>rfl⟩
theorem wG {P:Program} {ops:Array Oper} {S:World→Prop} {Q:Exit→Act→World→Prop} {L:Act→World→Prop} {o:Oper} {rest:List (Oper×Bool)} {a b:Act} {w:World} {v:Value} (h:wpT P ops Q S L rest b w) (hw:Region.wanted o (yielded ops a.tmps)=true:=by rfl)
 (hy:∀ w,S w→(execOp a.eval o).run P w=.ok (.value v) w:=by(intro W hW;go_simp;try with_reducible rfl)) (hb:a.put o.dst v=b:=by(simp only[Act.put,PU];try with_reducible rfl)):wpT P ops Q S L ((o,false) :: rest) a w:=ZH (hb ▸ h) hw hy
theorem PJ {b:Type}:(∀ (a:b) (l:List b),(a :: l)[0]? = some a)/\(∀ (a:b) (l:List b) (n:Nat),(a :: l)[n+1]? = l[n]?)/\(∀ (a:b) (l:List b) (n:Nat),(a :: l).drop (n+1)=l.drop n)/\(∀ (l:List b),l.drop 0=l):=⟨fun _ _=>rfl,fun _ _ _=>rfl,fun _ _ _=>rfl,fun _=>rfl⟩
theorem PI:(∀ (l:List Oper) (i:Nat) (b:Bool) (p:List (Nat×Bool)),YO l ((i,b) :: p)=((l[i]?).map fun o=>(o,b)).toList++YO l p)/\(∀ (l:List Oper),YO l []=[])/\(∀ (a:Oper) (l:List Oper),(a :: l)[0]? = some a)/\(∀ (a:Oper) (l:List Oper) (n:Nat),(a :: l)[n+1]? = l[n]?)/\(∀ (f:Oper->Oper×Bool) (a:Oper),(some a).map f=some (f a))/\(∀ (a:Oper×Bool),(some a).toList=[a])/\(∀ (a:Oper×Bool) (l:List (Oper×Bool)),[a]++l=a :: l)/\(∀ (a:Oper) (l:List Oper) (n:Nat),(a :: l).drop (n+1)=l.drop n)/\(∀ (l:List Oper),l.drop 0=l)/\(∀ (l:List Oper) (k:Nat) (q:List Nat) (r:List (List Nat)),YO l (OD ((k :: q) :: r))=((l[k]?).map fun o=>(o,false)).toList++YO l (OD (q :: r)))/\(∀ (l:List Oper) (k:Nat) (q:List Nat) (r:List (List Nat)),YO l (OD ([] :: (k :: q) :: r))=((l[k]?).map fun o=>(o,true)).toList++YO l (OD (q :: r)))/\(∀ (l:List Oper),YO l (OD [[]])=[]):=
 have H:∀ (l:List Oper) (i:Nat) (b:Bool) (p:List (Nat×Bool)),YO l ((i,b) :: p)=((l[i]?).map fun o=>(o,b)).toList++YO l p:=fun l i b p=>by unfold YO;cases h:l[i]? <;> simp[List.filterMap_cons,h]
 ⟨H,fun _=>rfl,fun _ _=>rfl,fun _ _ _=>rfl,fun _ _=>rfl,fun _=>rfl,fun _ _=>rfl,fun _ _ _=>rfl,fun _=>rfl,fun l k q r=>H l k false (OD (q :: r)),fun l k q r=>H l k true (OD (q :: r)),fun _=>rfl⟩
end
def Grow (w:World) (l l':List Nat):Prop:=∀ x∈l',x∈l\/w.heap.size<=x
theorem Grow.refl (w:World) (l:List Nat):Grow w l l:=fun _ h=>.inl h
theorem Grow.trans {w:World} {l a b:List Nat} (h:Grow w l a) (e:w.heap.size<=w1.heap.size) (k:Grow w1 a b):Grow w l b:=fun x d=>by
 rcases k x d with c | c
 . exact h x c
 exact .inr Z
theorem Keep.grow {l a:List Nat} {w:World} (h:Keep l w w1) (k:Keep a w1 w2) (b:Grow w l a):Keep l w w2:=h.trans k b
theorem own_ne {w:World} {m d base':Nat} {u:Value} {ys:List Value} {e a:TypeId} (h:w.ownsRow base e s v n xs) (f:w.ownsRow base' a d u m ys) (i:e≠a) (c:v.ownBlock=some b):u.ownBlock≠some b:=by
 rcases h.2 with⟨rfl,_⟩ | ⟨g,cap,l,rfl,_,j,_⟩
 . simp[Value.ownBlock] at c
 obtain rfl:g=b:=by simpa [Value.ownBlock] using c
 rcases f.2 with⟨rfl,_⟩ | ⟨o,p,q,rfl,_,k,_⟩
 . simp[Value.ownBlock]
 simp only[Value.ownBlock,ne_eq,Ab]
 rintro rfl;exact Blk.ne_ (t:=e) j k i rfl
theorem own_blk_ne {w:World} {e t:TypeId} (h:w.ownsRow base e s v n xs) (a:Blk w g t cs) (b:e≠t):v.ownBlock≠some g:=by
 rcases h.2 with⟨rfl,_⟩ | ⟨d,f,i,rfl,_,c,_⟩
 . simp[Value.ownBlock]
 simp only[Value.ownBlock,ne_eq,Ab]
 rintro rfl;exact Blk.ne_ (t:=e) c a b rfl
theorem own_mem {w:World} {e:TypeId} (h:w.ownsRow base e s v n xs) (a:g∈v.ownBlock.toList):base<=g/\g<w.heap.size:=h.lt g (uq a)
theorem own_set {w:World} {e:TypeId} (h:w.ownsRow base e s v n xs) {o:Nat} (a:b∉v.ownBlock.toList) (u:Value):(w.setCell (aq b o) u).ownsRow base e s v n xs:=
 KA h ((Keep.refl [b] w).setCell (p:=⟨b,o,none⟩) (.inl sq) u) (by intro g c;simp only[Ag];rintro rfl;exact a (uq c))
section
variable {P:Program} {t e:TypeId} {z:Value} {bytes:Nat}
theorem Elem.run_copyOwn (E:Elem P t e z bytes) (w:World) (h:TypeId) (base:Nat) (A:Option Addr) (n c:Nat) (xs:List Value) (q:w.ownsRow base e 1 (.slice A n c) n xs) (a:Nat)
 (S:Option Addr) (m r:Nat) (ys:List Value) (s:Rd w S m ys) (F:∀ u∈ys,u.oneCell'=true) (Q:a+m<=n) :
 ∃ w',(Builtin.copy_ #[t,t] h #[.slice (cutA A a c) (n-a) (c-a),.slice S m r]).run P w=.ok (.int .i64 (m:Nat)) w'/\w'.ownsRow base e 1 (.slice A n c) n (laid xs a ys)/\Keep (Value.slice A n c).ownBlock.toList w w':=by
 obtain⟨i,hi,R,G,T⟩:=E.info;have y:(P.info? e).map (·.size)=some 1:=by rw[hi];simp[G]
 have f:ys.length=m:=s.1;rcases BQ m with l | l
 . subst l
   obtain rfl:ys=[]:=Aw f;exact⟨w,run_copy_none w t t h e _ _ _ _ _ _ E.und y (Nat.zero_min _),by rw[laid_nil];exact q,kq⟩
 obtain⟨b,o',rfl,U,H⟩:=s.2 l
 rcases q.2 with⟨B,V⟩ | ⟨g,cap,d,B,I,C,o,J,K,L⟩
 . omega
 injection B with hA _ hcap
 subst hA hcap;rw[VBZ g 0 a c Z,BB];have p:d.size=c:=uq K
 have M:d.toList.take n=xs:=uq L
 have D:=run_copy_row (P:=P) w t t h e g a (n-a) (c-a) ⟨b,o',none⟩ m r d e ys E.und y C (by rw[f];show m=min m (n-a);omega) (fun j v N=>by rw[Bw];exact H j v N) (by rw[p];omega) F;rw[f] at D;refine⟨_,D,Vh (cs:=(d.toList.take a++ys++d.toList.drop (a+m)).toArray) (Df w g _ _ e _ C) I o (by simpa [maxLen] using J) (by simp[p];omega) ?_,⟨rfl,rfl,rfl,by simp[World.setRow],fun k W o=>DY w g k _ (by simpa [Value.ownBlock,eq_comm] using o)⟩⟩;unfold laid;rw[<- M,f];have O:d.toList.length=c:=uq p
 apply By;intro j;simp only[Bb,EF,AE,BH,O,f,BT]
 repeat' split
 all_goals first | rfl | omega | (congr 1;omega)
theorem Elem.wp1_copyOwn (E:Elem P t e z bytes) {w:World} {o:Oper} {a:Act} {Q:Exit->Act->World->Prop} (d s:Operand)
 (g:o.op=.call { callee:=.builtin .copy,args:=#[d,s],argTypes:=#[t,t] })
 (base:Nat) (A:Option Addr) (n c:Nat) (xs:List Value) (b:Nat) (i:a.eval d=.slice (cutA A b c) (n-b) (c-b)) (j:w.ownsRow base e 1 (.slice A n c) n xs)
 (S:Option Addr) (m f:Nat) (ys:List Value) (k:a.eval s=.slice S m f) (l:Rd w S m ys) (p:∀ u∈ys,u.oneCell'=true) (q:b+m<=n)
 (h:∀ w',w'.ownsRow base e 1 (.slice A n c) n (laid xs b ys)->Keep (Value.slice A n c).ownBlock.toList w w'->K (a.put o.dst (.int .i64 (m:Nat))) w'):o.wp P a w K Q:=by
 obtain⟨w',r,v,y⟩:=E.run_copyOwn w o.type base A n c xs j b S m f ys l p q;unfold Oper.wp execOp;simp only[g,resolve,invoke,builtin,B8,B7,BV,Co,CN,Cx,i,k,r];exact h w' v y
end
def Apart (A B:List Nat):Prop:=∀ x∈A,x∉B
namespace Apart
variable {A B C A' B' F F' G:List Nat} {w w':World}
theorem symm (h:Apart A B):Apart B A:=fun x a b=>h x b a
theorem nil_right:Apart A []:=fun _ _ h=>by cases h
theorem left (h:Apart (A++B) C):Apart A C:=fun x a=>h x (At _ a)
theorem right (h:Apart (A++B) C):Apart B C:=fun x a=>h x (A6 _ a)
theorem sub (h:Apart A B) (a:∀ x∈A',x∈A) (b:∀ x∈B',x∈B):Apart A' B':=fun x c d=>h x (a x c) (b x d)
theorem cons {a:Nat} (h:a∉B) (k:Apart A B):Apart (a :: A) B:=fun x b=>(AL.1 b).elim (fun e=>e ▸ h) (k x)
theorem grow (h:Apart F G) (c:Grow w F F') (d:∀ x∈G,x<w.heap.size):Apart F' G:=fun x e a=>by
 rcases c x e with b | b
 . exact h x b a
 exact absurd (d x a) Z
theorem grow_r (h:Apart G F) (a:Grow w F F') (b:∀ x∈G,x<w.heap.size):Apart G F':=(h.symm.grow a b).symm
theorem new (h:∀ x∈A,x<n) (k:∀ x∈B,n<=x):Apart A B:=fun x a b=>absurd (h x a) (by have:=k x b;omega)
end Apart
theorem Grow.cons {w:World} {F F':List Nat} (a:Nat) (h:Grow w F F'):Grow w (a :: F) (a :: F'):=fun x b=>by
 rcases AL.1 b with rfl | h1
 . exact .inl CS
 exact(h x h1).imp (Ak _) id
theorem Grow.sub {w:World} {F F' G:List Nat} (h:Grow w F F') (a:∀ x∈F,x∈G):Grow w G F':=fun x b=>(h x b).imp (a x) id
theorem Grow.keep {w w0:World} {l F F':List Nat} (h:Grow w F F') (a:Keep l w0 w):Grow w0 F F':=fun x b=>(h x b).imp id (fun c=>AB a.size c)
theorem Grow.ge {w:World} {F F':List Nat} (h:Grow w F F') (a:∀ x∈F,b<=x) (d:b<=w.heap.size):∀ x∈F',b<=x:=fun x c=>(h x c).elim (a x) Z
theorem Keep.sub {w w':World} {l m:List Nat} (h:Keep l w w') (a:∀ x∈l,x∈m):Keep m w w':=h.mono (fun x b=>.inl (a x b))
theorem Keep.apart {w w':World} {l F:List Nat} (h:Keep l w w') (a:Apart F l):∀ g∈F,g∉l:=a
def seg {α:Type} (s:Nat) (xs:List α) (i:Nat):List α:=(xs.drop (i*s)).take s
theorem length_seg {a:Type} (s:Nat) (xs:List a) (i:Nat) (h:(i+1)*s<=xs.length):(seg s xs i).length=s:=by
 rw[Cc] at h;simp[seg];omega
theorem seg_get {a:Type} (s:Nat) (xs:List a) (i j:Nat) (b:j<s):(seg s xs i)[j]? = xs[i*s+j]? := by
 simp[seg,Bb,b,BT]
theorem seg_laid_same {a:Type} (s:Nat) (xs ys:List a) (i:Nat) (h:(i+1)*s<=xs.length) (b:ys.length=s):seg s (laid xs (i*s) ys) i=ys:=by
 rw[Cc] at h;unfold seg laid;rw[BN,List.drop_append_of_le_length (by simp;omega),BL (by simp;omega),Am,CI Z,AK Z]
theorem seg_laid_other {b:Type} (s:Nat) (xs ys:List b) (i k:Nat) (h:(i+1)*s<=xs.length) (f:ys.length=s) (c:k≠i):seg s (laid xs (i*s) ys) k=seg s xs k:=by
 rw[Cc] at h;apply By;intro j;by_cases a:j<s
 . rw[seg_get _ _ _ _ a,seg_get _ _ _ _ a]
   unfold laid;rcases Nat.lt_or_gt_of_ne c with d | e
   . have:(k+1)*s<=i*s:=BJ _ d
     rw[Cc] at this;rw[BN,CG (by simp;omega),Bb,AJ Z]
   have:(i+1)*s<=k*s:=BJ _ e
   rw[Cc] at this;rw[Bm (by simp;omega),BT]
   congr 1
   simp;omega
 simp only[seg,Bb,AF a]
section
open Go.RowKit
variable {P:Program} {ops:Array Oper} {md:Region.Mode} {S:World->Prop} {Q:Exit->Act->World->Prop}
inductive RT where
 | nil
 | held (k:Nat) (t:RT)
 | loud (k:Nat) (t:RT)
 | two (i:Nat) (t:RT) (j:Nat) (u:RT)
 | three (i:Nat) (t:RT) (j:Nat) (u:RT) (k:Nat) (v:RT)
inductive RP where
 | nil
 | held (o:Oper) (t:RP)
 | loud (o:Oper) (t:RP)
 | two (o:Oper) (t:RP) (o':Oper) (u:RP)
 | three (o:Oper) (t:RP) (o':Oper) (u:RP) (o'':Oper) (v:RP)
def RT.size:RT->Nat
 | .nil=>0
 | .held _ t=>t.size+1
 | .loud _ t=>t.size+1
 | .two _ t _ _=>t.size+1
 | .three _ t _ _ _ _=>t.size+1
def RT.pick (l:List Oper):RT->RP
 | .nil=>.nil
 | .held k t=>match l[k]? with | some o=>.held o (t.pick l) | none=>.nil
 | .loud k t=>match l[k]? with | some o=>.loud o (t.pick l) | none=>.nil
 | .two i t j u=>match l[i]?,l[j]? with | some o,some o'=>.two o (t.pick l) o' (u.pick l) | _,_=>.nil
 | .three i t j u k v=>match l[i]?,l[j]?,l[k]? with | some o,some o',some o''=>.three o (t.pick l) o' (u.pick l) o'' (v.pick l) | _,_,_=>.nil
def wpR (P:Program) (ops:Array Oper) (Q:Exit->Act->World->Prop) (S:World->Prop) (L:Act->World->Prop):RP->Act->World->Prop
 | .nil,a,w=>L a w
 | .held o t,a,w=>∃ v,YieldsIf P ops S o v a/\wpR P ops Q S L t (a.put o.dst v) w
 | .loud o t,a,w=>wpO P ops Q o (fun a' w'=>S w'/\wpR P ops Q S L t a' w') a w
 | .two o t o' u,a,w=>wpO P ops Q o (fun a' w'=>S w'/\wpR P ops Q S L t a' w') a w/\wpO P ops Q o' (fun a' w'=>S w'/\wpR P ops Q S L u a' w') a w
 | .three o t o' u o'' v,a,w=>wpO P ops Q o (fun a' w'=>S w'/\wpR P ops Q S L t a' w') a w/\wpO P ops Q o' (fun a' w'=>S w'/\wpR P ops Q S L u a' w') a w/\wpO P ops Q o'' (fun a' w'=>S w'/\wpR P ops Q S L v a' w') a w
def Region.treeB (md:Region.Mode) (ops:Array Oper) (n g:Nat):RT->Array Bool->Bool
 | .nil,listed=>Region.seqB md ops g n listed
 | .held k t,listed=>decide (k<n) && (Region.ready md ops listed).contains k && Region.free md ops listed k && Region.treeB md ops n g t (listed.setIfInBounds k true)
 | .loud k t,listed=>decide (k<n) && decide (Region.ready md ops listed=[k]) && Region.treeB md ops n g t (listed.setIfInBounds k true)
 | .two i t j u,listed=>decide (i<n) && decide (j<n) && decide (Region.ready md ops listed=[i,j]) && decide (t.size=u.size) && Region.treeB md ops n g t (listed.setIfInBounds i true) && Region.treeB md ops n g u (listed.setIfInBounds j true)
 | .three i t j u k v,listed=>decide (i<n) && decide (j<n) && decide (k<n) && decide (Region.ready md ops listed=[i,j,k]) && decide (t.size=u.size) && decide (t.size=v.size) && Region.treeB md ops n g t (listed.setIfInBounds i true) && Region.treeB md ops n g u (listed.setIfInBounds j true) && Region.treeB md ops n g v (listed.setIfInBounds k true)
def Region.rtB (md:Region.Mode) (ops:Array Oper) (n:Nat) (p:RT):Bool:=
 Region.noSelect ops && decide (n<ops.size) && decide (p.size=n) && Region.sinkB md ops n && Region.chainB md ops n && Region.treeB md ops n (ops.size-n) p (Array.replicate ops.size false)
theorem wpOp_of_wpO {o:Oper} {a:Act} {w:World} (b:l[k]? = some o) (h:wpO P l.toArray Q o K a w):wpOp P l.toArray Q k K a w:=by
 have c:l.toArray[k]? = some o:=uq b
 unfold wpOp;simp only[c];exact h
theorem wpHL_of_wpR (t:Region.noSelect l.toArray=true) (y:Region.sinkB md l.toArray n=true) (z:Region.chainB md l.toArray n=true) (A:n<l.toArray.size)
 (B:∀ c a d v w,Q (.panic c) (a.put d v) w->Q (.panic c) a w) :
 ∀ (p:RT) (e:Array Bool) (a:Act) (w:World),HeadInv md l.toArray n e->Region.treeB md l.toArray n g p e=true->S w ->
   wpR P l.toArray Q S Lq (p.pick l) a w->ZBV P md l.toArray Q S n (fun U C w'=>Region.seqB md l.toArray g n U=true/\Lq C w') p.size e a w
 | .nil,e,a,w,_,hB,_,h=>⟨by simpa [Region.treeB] using hB,by simpa [RT.pick,wpR] using h⟩
 | .held k p,e,a,w,inv,hB,hS,h=>by
   simp only[Region.treeB,Al,AY] at hB;obtain⟨⟨⟨m,f⟩,Y⟩,L⟩:=hB;have D:k∈Region.ready md l.toArray e:=uq f
   obtain⟨_,o,r,_⟩:=BU.1 D;have E:l[k]? = some o:=uq r
   have F:(RT.held k p).pick l=.held o (p.pick l):=by simp[RT.pick,E]
   rw[F] at h;obtain⟨v,hy,a0⟩:=h
   exact Zn r (Dg t) (.inr y) z (Nat.le_of_lt A) m (fun U C w' a1=>seqB_ready a1.1) (fun c a w=>B c a _ _ w) p.size e a w inv (Dz r Y) D hy hS
    (wpHL_of_wpR t y z A B p _ _ _ (inv.set D m) L hS a0)
 | .loud k p,e,a,w,inv,hB,hS,h=>by
   simp only[Region.treeB,Al,AY] at hB;obtain⟨⟨m,f⟩,L⟩:=hB;have D:k∈Region.ready md l.toArray e:=by rw[f];simp
   obtain⟨_,o,r,_⟩:=BU.1 D;have E:l[k]? = some o:=uq r
   have F:(RT.loud k p).pick l=.loud o (p.pick l):=by simp[RT.pick,E]
   rw[F] at h;refine⟨fun G=>(by rw[G] at D;cases D),fun i hi=>?_⟩;rw[f] at hi;obtain rfl:i=k:=uq hi
   exact⟨m,Br (fun C w' b=>⟨b.1,wpHL_of_wpR t y z A B p _ _ _ (inv.set D m) L b.1 b.2⟩) (wpOp_of_wpO E h)⟩
 | .two i p j u,e,a,w,inv,hB,hS,h=>by
   simp only[Region.treeB,Al,AY] at hB;obtain⟨⟨⟨⟨⟨hi,H⟩,f⟩,M⟩,N⟩,O⟩:=hB;have s:i∈Region.ready md l.toArray e:=by rw[f];simp
   have I:j∈Region.ready md l.toArray e:=by rw[f];simp
   obtain⟨_,o,r,_⟩:=BU.1 s;obtain⟨_,o',E,_⟩:=BU.1 I;have J:l[i]? = some o:=uq r
   have K:l[j]? = some o':=uq E
   have F:(RT.two i p j u).pick l=.two o (p.pick l) o' (u.pick l):=by simp[RT.pick,J,K]
   rw[F] at h;obtain⟨R,T⟩:=h;refine⟨fun G=>(by rw[G] at s;cases s),fun k m=>?_⟩;rw[f] at m;have a2:k=i\/k=j:=uq m
   rcases a2 with rfl | rfl
   . exact⟨hi,Br (fun C w' b=>⟨b.1,wpHL_of_wpR t y z A B p _ _ _ (inv.set s hi) N b.1 b.2⟩) (wpOp_of_wpO J R)⟩
   . refine⟨H,Br (fun C w' b=>⟨b.1,?_⟩) (wpOp_of_wpO K T)⟩
     have:=wpHL_of_wpR t y z A B u _ _ _ (inv.set I H) O b.1 b.2
     rwa [<- M] at this
 | .three i p j u k v,e,a,w,inv,hB,hS,h=>by
   simp only[Region.treeB,Al,AY] at hB;obtain⟨⟨⟨⟨⟨⟨⟨⟨hi,H⟩,m⟩,f⟩,M⟩,a3⟩,N⟩,O⟩,a4⟩:=hB;have s:i∈Region.ready md l.toArray e:=by rw[f];simp
   have I:j∈Region.ready md l.toArray e:=by rw[f];simp
   have V:k∈Region.ready md l.toArray e:=by rw[f];simp
   obtain⟨_,o,r,_⟩:=BU.1 s;obtain⟨_,o',E,_⟩:=BU.1 I;obtain⟨_,o'',a5,_⟩:=BU.1 V;have J:l[i]? = some o:=uq r
   have K:l[j]? = some o':=uq E
   have W:l[k]? = some o'':=uq a5
   have F:(RT.three i p j u k v).pick l=.three o (p.pick l) o' (u.pick l) o'' (v.pick l):=by simp[RT.pick,J,K,W]
   rw[F] at h;obtain⟨R,T,h3⟩:=h;refine⟨fun G=>(by rw[G] at s;cases s),fun q X=>?_⟩;rw[f] at X;have a6:q=i\/q=j\/q=k:=uq X
   rcases a6 with rfl | rfl | rfl
   . exact⟨hi,Br (fun C w' b=>⟨b.1,wpHL_of_wpR t y z A B p _ _ _ (inv.set s hi) N b.1 b.2⟩) (wpOp_of_wpO J R)⟩
   . refine⟨H,Br (fun C w' b=>⟨b.1,?_⟩) (wpOp_of_wpO K T)⟩
     have:=wpHL_of_wpR t y z A B u _ _ _ (inv.set I H) O b.1 b.2
     rwa [<- M] at this
   refine⟨m,Br (fun C w' b=>⟨b.1,?_⟩) (wpOp_of_wpO W h3)⟩
   have:=wpHL_of_wpR t y z A B v _ _ _ (inv.set V m) a4 b.1 b.2
   rwa [<- a3] at this
theorem wp_region_rt {a:Act} {w:World} (S:World->Prop) (n:Nat) (p:RT) (m:P.follows .mixedOrders=true) (b:Region.rtB .any l.toArray n p=true)
 (o:∀ c a d v w,Q (.panic c) (a.put d v) w->Q (.panic c) a w) (q:S w.drew)
 (h:wpR P l.toArray Q S (wpList P l.toArray Q (l.drop n)) (p.pick l) a w.drew):(Code.region id l.toArray true).wp P Q a w:=by
 simp only[Region.rtB,Al,AY] at b;obtain⟨⟨⟨⟨⟨r,e⟩,s⟩,u⟩,y⟩,z⟩:=b;have E:n<l.length:=uq e
 have A:HeadInv .any l.toArray n (Array.replicate l.toArray.size false):=
  ⟨sq,fun j F _ f=>(by rw[getD_replicate_false] at f;cases f),fun t _ B=>getD_in (uq B) (getD_replicate_false _ _)⟩
 have H:=wpHL_of_wpR r u y e o p _ a w.drew A z q h;refine wp_region_any m ?_;have i:(l.drop n).length=l.toArray.size-n:=sq
 have:=XQ (Q:=Q) (g:=l.toArray.size-n) (fun C D w' k=>by
  have:=wpAny_of_seq (md:=.any) (Q':=Q) (l.drop n) n C D w' (fun j=>by simp[BT]) (by rw[i];exact k.1) k.2
  rwa [i] at this) _ _ _ _ H
 rw[s,show n+(l.toArray.size-n)=l.toArray.size from Z] at this;exact this
section moves
variable {L:Act->World->Prop} {o o':Oper} {rest rest':RP} {a:Act} {w:World}
theorem wpR_nil (h:L a w):wpR P ops Q S L .nil a w:=h
theorem wpR_held (v:Value) (b:Region.wanted o (yielded ops a.tmps)=true) (c:∀ w,S w->(execOp a.eval o).run P w=.ok (.value v) w) (h:wpR P ops Q S L rest (a.put o.dst v) w) :
 wpR P ops Q S L (.held o rest) a w:=⟨v,.inl ⟨b,c⟩,h⟩
theorem wpR_loud (c:Region.wanted o (yielded ops a.tmps)=true) (h:∀ K:Act->World->Prop,(∀ b w',S w'->wpR P ops Q S L rest b w'->K b w')->o.wp P a w K Q) :
 wpR P ops Q S L (.loud o rest) a w:=by
 show wpO P ops Q o _ a w;unfold wpO;rw[AJ c];exact .inl (h _ fun b w' d e=>⟨d,e⟩)
theorem wpR_three {b:RP} (c:wpR P ops Q S L (.loud o rest) a w) (d:wpR P ops Q S L (.loud o' rest') a w) (e:wpR P ops Q S L (.loud o'' b) a w):wpR P ops Q S L (.three o rest o' rest' o'' b) a w:=⟨c,d,e⟩
theorem wpR_two (b:wpR P ops Q S L (.loud o rest) a w) (c:wpR P ops Q S L (.loud o' rest') a w):wpR P ops Q S L (.two o rest o' rest') a w:=⟨b,c⟩
end moves
theorem ZR {P:Program} {Q:Exit->Act->World->Prop} {a:Act} {w:World} (S:World->Prop) (n:Nat) (p:RT) (b:S w.drew)
 (h:wpR P l.toArray Q S (wpList P l.toArray Q (l.drop n)) (p.pick l) a w.drew) (e:P.follows .mixedOrders=true:=by kernel_rfl) (f:Region.rtB .any l.toArray n p=true:=by kernel_rfl)
 (g:∀ c a d v w,Q (.panic c) (a.put d v) w->Q (.panic c) a w:=by exact fun _ _ d _ _ h=>by cases d <;> exact h):(Code.region id l.toArray true).wp P Q a w:=wp_region_rt S n p e f g b h
theorem ZK {P:Program} {ops:Array Oper} {S:World->Prop} {Q:Exit->Act->World->Prop} {L:Act->World->Prop} {o:Oper} {rest:RP} {a:Act} {w:World} (h:wpR P ops Q S L rest (a.put o.dst v) w) (b:Region.wanted o (yielded ops a.tmps)=true:=by rfl)
 (c:∀ w,S w->(execOp a.eval o).run P w=.ok (.value v) w:=by(intro W d;go_simp;try with_reducible rfl)):wpR P ops Q S L (.held o rest) a w:=wpR_held v b c h
theorem wW {P:Program} {ops:Array Oper} {S:World→Prop} {Q:Exit→Act→World→Prop} {L:Act→World→Prop} {o:Oper} {rest:RP} {a b:Act} {w:World} {v:Value} (h:wpR P ops Q S L rest b w) (hw:Region.wanted o (yielded ops a.tmps)=true:=by rfl)
 (hy:∀ w,S w→(execOp a.eval o).run P w=.ok (.value v) w:=by(intro W hW;go_simp;try with_reducible rfl)) (hb:a.put o.dst v=b:=by(simp only[Act.put,PU];try with_reducible rfl)):wpR P ops Q S L (.held o rest) a w:=ZK (hb ▸ h) hw hy
end
def KeepN (N:List Nat) (w w':World):Prop:=∃ l,Keep l w w'/\∀ b∈N,b∉l
theorem Blk.keepN {w w':World} {t:TypeId} (h:Blk w g t cs) (a:KeepN N w w') (b:g∈N):Blk w' g t cs:=by
 obtain⟨l,a,c⟩:=a;exact h.keep a (c g b)
theorem rd_keepN {w w':World} {A:Option Addr} (h:Rd w A n xs) (b:KeepN N w w') (c:∀ a,A=some a->a.block∈N):Rd w' A n xs:=by
 obtain⟨l,b,d⟩:=b;exact h.keepIf b (fun a e=>d _ (c a e))
theorem KeepN.trans {w:World} (h:KeepN N w w1) (e:KeepN N w1 w2):KeepN N w w2:=by
 obtain⟨l,f,g⟩:=h;obtain⟨m,i,j⟩:=e;refine⟨l++m,(f.mono (fun x c=>.inl (At m c))).trans i (fun x c=>.inl (A6 l c)),fun b d a=>?_⟩;rcases AD.1 a with a | a
 . exact g b d a
 exact j b d a
theorem KeepN.of0 {w w':World} (h:kz w w'):KeepN N w w':=⟨[],h,fun _ _ h=>by cases h⟩
theorem KeepN.sub {M:List Nat} {w w':World} (h:KeepN N w w') (a:∀ b∈M,b∈N):KeepN M w w':=by
 obtain⟨l,c,d⟩:=h;exact⟨l,c,fun b e=>d b (a b e)⟩
section
open Go.RowKit
variable {P:Program} {ops:Array Oper} {md:Region.Mode} {S:World->Prop} {Q:Exit->Act->World->Prop}
inductive RQ where
 | nil
 | held (k:Nat) (t:RQ)
 | loud (k:Nat) (t:RQ)
 | two (i:Nat) (t:RQ) (j:Nat) (u:RQ)
 | three (i:Nat) (t:RQ) (j:Nat) (u:RQ) (k:Nat) (v:RQ)
 | four (i:Nat) (t:RQ) (j:Nat) (u:RQ) (k:Nat) (v:RQ) (m:Nat) (x:RQ)
inductive RO where
 | nil
 | held (o:Oper) (t:RO)
 | loud (o:Oper) (t:RO)
 | two (o:Oper) (t:RO) (o':Oper) (u:RO)
 | three (o:Oper) (t:RO) (o':Oper) (u:RO) (o'':Oper) (v:RO)
 | four (o:Oper) (t:RO) (o':Oper) (u:RO) (o'':Oper) (v:RO) (o3:Oper) (x:RO)
def RQ.size:RQ->Nat
 | .nil=>0
 | .held _ t=>t.size+1
 | .loud _ t=>t.size+1
 | .two _ t _ _=>t.size+1
 | .three _ t _ _ _ _=>t.size+1
 | .four _ t _ _ _ _ _ _=>t.size+1
def RQ.pick (l:List Oper):RQ->RO
 | .nil=>.nil
 | .held k t=>match l[k]? with | some o=>.held o (t.pick l) | none=>.nil
 | .loud k t=>match l[k]? with | some o=>.loud o (t.pick l) | none=>.nil
 | .two i t j u=>match l[i]?,l[j]? with | some o,some o'=>.two o (t.pick l) o' (u.pick l) | _,_=>.nil
 | .three i t j u k v=>match l[i]?,l[j]?,l[k]? with | some o,some o',some o''=>.three o (t.pick l) o' (u.pick l) o'' (v.pick l) | _,_,_=>.nil
 | .four i t j u k v m x=>match l[i]?,l[j]?,l[k]?,l[m]? with | some o,some o',some o'',some o3=>.four o (t.pick l) o' (u.pick l) o'' (v.pick l) o3 (x.pick l) | _,_,_,_=>.nil
def wpQ (P:Program) (ops:Array Oper) (Q:Exit->Act->World->Prop) (S:World->Prop) (L:Act->World->Prop):RO->Act->World->Prop
 | .nil,a,w=>L a w
 | .held o t,a,w=>∃ v,YieldsIf P ops S o v a/\wpQ P ops Q S L t (a.put o.dst v) w
 | .loud o t,a,w=>wpO P ops Q o (fun a' w'=>S w'/\wpQ P ops Q S L t a' w') a w
 | .two o t o' u,a,w=>wpO P ops Q o (fun a' w'=>S w'/\wpQ P ops Q S L t a' w') a w/\wpO P ops Q o' (fun a' w'=>S w'/\wpQ P ops Q S L u a' w') a w
 | .three o t o' u o'' v,a,w=>wpO P ops Q o (fun a' w'=>S w'/\wpQ P ops Q S L t a' w') a w/\wpO P ops Q o' (fun a' w'=>S w'/\wpQ P ops Q S L u a' w') a w/\wpO P ops Q o'' (fun a' w'=>S w'/\wpQ P ops Q S L v a' w') a w
 | .four o t o' u o'' v o3 x,a,w=>wpO P ops Q o (fun a' w'=>S w'/\wpQ P ops Q S L t a' w') a w/\wpO P ops Q o' (fun a' w'=>S w'/\wpQ P ops Q S L u a' w') a w/\wpO P ops Q o'' (fun a' w'=>S w'/\wpQ P ops Q S L v a' w') a w/\wpO P ops Q o3 (fun a' w'=>S w'/\wpQ P ops Q S L x a' w') a w
def Region.treeQ (md:Region.Mode) (ops:Array Oper) (n g:Nat):RQ->Array Bool->Bool
 | .nil,listed=>Region.seqB md ops g n listed
 | .held k t,listed=>decide (k<n) && (Region.ready md ops listed).contains k && Region.free md ops listed k && Region.treeQ md ops n g t (listed.setIfInBounds k true)
 | .loud k t,listed=>decide (k<n) && decide (Region.ready md ops listed=[k]) && Region.treeQ md ops n g t (listed.setIfInBounds k true)
 | .two i t j u,listed=>decide (i<n) && decide (j<n) && decide (Region.ready md ops listed=[i,j]) && decide (t.size=u.size) && Region.treeQ md ops n g t (listed.setIfInBounds i true) && Region.treeQ md ops n g u (listed.setIfInBounds j true)
 | .three i t j u k v,listed=>decide (i<n) && decide (j<n) && decide (k<n) && decide (Region.ready md ops listed=[i,j,k]) && decide (t.size=u.size) && decide (t.size=v.size) && Region.treeQ md ops n g t (listed.setIfInBounds i true) && Region.treeQ md ops n g u (listed.setIfInBounds j true) && Region.treeQ md ops n g v (listed.setIfInBounds k true)
 | .four i t j u k v m x,listed=>decide (i<n) && decide (j<n) && decide (k<n) && decide (m<n) && decide (Region.ready md ops listed=[i,j,k,m]) && decide (t.size=u.size) && decide (t.size=v.size) && decide (t.size=x.size) && Region.treeQ md ops n g t (listed.setIfInBounds i true) && Region.treeQ md ops n g u (listed.setIfInBounds j true) && Region.treeQ md ops n g v (listed.setIfInBounds k true) && Region.treeQ md ops n g x (listed.setIfInBounds m true)
def Region.rqB (md:Region.Mode) (ops:Array Oper) (n:Nat) (p:RQ):Bool:=
 Region.noSelect ops && decide (n<ops.size) && decide (p.size=n) && Region.sinkB md ops n && Region.chainB md ops n && Region.treeQ md ops n (ops.size-n) p (Array.replicate ops.size false)
theorem wpOp_of_wpO4 {o:Oper} {a:Act} {w:World} (b:l[k]? = some o) (h:wpO P l.toArray Q o K a w):wpOp P l.toArray Q k K a w:=by
 have c:l.toArray[k]? = some o:=uq b
 unfold wpOp;simp only[c];exact h
theorem wpHL_of_wpQ (t:Region.noSelect l.toArray=true) (y:Region.sinkB md l.toArray n=true) (z:Region.chainB md l.toArray n=true) (A:n<l.toArray.size)
 (B:∀ c a d v w,Q (.panic c) (a.put d v) w->Q (.panic c) a w) :
 ∀ (p:RQ) (e:Array Bool) (a:Act) (w:World),HeadInv md l.toArray n e->Region.treeQ md l.toArray n g p e=true->S w ->
   wpQ P l.toArray Q S Lq (p.pick l) a w->ZBV P md l.toArray Q S n (fun a3 C w'=>Region.seqB md l.toArray g n a3=true/\Lq C w') p.size e a w
 | .nil,e,a,w,_,hB,_,h=>⟨by simpa [Region.treeQ] using hB,by simpa [RQ.pick,wpQ] using h⟩
 | .held k p,e,a,w,inv,hB,hS,h=>by
   simp only[Region.treeQ,Al,AY] at hB;obtain⟨⟨⟨r,f⟩,hf⟩,X⟩:=hB;have G:k∈Region.ready md l.toArray e:=uq f
   obtain⟨_,o,D,_⟩:=BU.1 G;have E:l[k]? = some o:=uq D
   have F:(RQ.held k p).pick l=.held o (p.pick l):=by simp[RQ.pick,E]
   rw[F] at h;obtain⟨v,hy,a6⟩:=h
   exact Zn D (Dg t) (.inr y) z (Nat.le_of_lt A) r (fun a3 C w' a7=>seqB_ready a7.1) (fun c a w=>B c a _ _ w) p.size e a w inv (Dz D hf) G hy hS
    (wpHL_of_wpQ t y z A B p _ _ _ (inv.set G r) X hS a6)
 | .loud k p,e,a,w,inv,hB,hS,h=>by
   simp only[Region.treeQ,Al,AY] at hB;obtain⟨⟨r,f⟩,X⟩:=hB;have G:k∈Region.ready md l.toArray e:=by rw[f];simp
   obtain⟨_,o,D,_⟩:=BU.1 G;have E:l[k]? = some o:=uq D
   have F:(RQ.loud k p).pick l=.loud o (p.pick l):=by simp[RQ.pick,E]
   rw[F] at h;refine⟨fun L=>(by rw[L] at G;cases G),fun i hi=>?_⟩;rw[f] at hi;obtain rfl:i=k:=uq hi
   exact⟨r,Br (fun C w' b=>⟨b.1,wpHL_of_wpQ t y z A B p _ _ _ (inv.set G r) X b.1 b.2⟩) (wpOp_of_wpO4 E h)⟩
 | .two i p j u,e,a,w,inv,hB,hS,h=>by
   simp only[Region.treeQ,Al,AY] at hB;obtain⟨⟨⟨⟨⟨hi,H⟩,f⟩,M⟩,N⟩,O⟩:=hB;have s:i∈Region.ready md l.toArray e:=by rw[f];simp
   have I:j∈Region.ready md l.toArray e:=by rw[f];simp
   obtain⟨_,o,D,_⟩:=BU.1 s;obtain⟨_,o',E,_⟩:=BU.1 I;have J:l[i]? = some o:=uq D
   have K:l[j]? = some o':=uq E
   have F:(RQ.two i p j u).pick l=.two o (p.pick l) o' (u.pick l):=by simp[RQ.pick,J,K]
   rw[F] at h;obtain⟨R,T⟩:=h;refine⟨fun L=>(by rw[L] at s;cases s),fun k r=>?_⟩;rw[f] at r;have a8:k=i\/k=j:=uq r
   rcases a8 with rfl | rfl
   . exact⟨hi,Br (fun C w' b=>⟨b.1,wpHL_of_wpQ t y z A B p _ _ _ (inv.set s hi) N b.1 b.2⟩) (wpOp_of_wpO4 J R)⟩
   . refine⟨H,Br (fun C w' b=>⟨b.1,?_⟩) (wpOp_of_wpO4 K T)⟩
     have:=wpHL_of_wpQ t y z A B u _ _ _ (inv.set I H) O b.1 b.2
     rwa [<- M] at this
 | .three i p j u k v,e,a,w,inv,hB,hS,h=>by
   simp only[Region.treeQ,Al,AY] at hB;obtain⟨⟨⟨⟨⟨⟨⟨⟨hi,H⟩,r⟩,f⟩,M⟩,Y⟩,N⟩,O⟩,a0⟩:=hB;have s:i∈Region.ready md l.toArray e:=by rw[f];simp
   have I:j∈Region.ready md l.toArray e:=by rw[f];simp
   have U:k∈Region.ready md l.toArray e:=by rw[f];simp
   obtain⟨_,o,D,_⟩:=BU.1 s;obtain⟨_,o',E,_⟩:=BU.1 I;obtain⟨_,o'',a1,_⟩:=BU.1 U;have J:l[i]? = some o:=uq D
   have K:l[j]? = some o':=uq E
   have V:l[k]? = some o'':=uq a1
   have F:(RQ.three i p j u k v).pick l=.three o (p.pick l) o' (u.pick l) o'' (v.pick l):=by simp[RQ.pick,J,K,V]
   rw[F] at h;obtain⟨R,T,h3⟩:=h;refine⟨fun L=>(by rw[L] at s;cases s),fun q W=>?_⟩;rw[f] at W;have a2:q=i\/q=j\/q=k:=uq W
   rcases a2 with rfl | rfl | rfl
   . exact⟨hi,Br (fun C w' b=>⟨b.1,wpHL_of_wpQ t y z A B p _ _ _ (inv.set s hi) N b.1 b.2⟩) (wpOp_of_wpO4 J R)⟩
   . refine⟨H,Br (fun C w' b=>⟨b.1,?_⟩) (wpOp_of_wpO4 K T)⟩
     have:=wpHL_of_wpQ t y z A B u _ _ _ (inv.set I H) O b.1 b.2
     rwa [<- M] at this
   . refine⟨r,Br (fun C w' b=>⟨b.1,?_⟩) (wpOp_of_wpO4 V h3)⟩
     have:=wpHL_of_wpQ t y z A B v _ _ _ (inv.set U r) a0 b.1 b.2
     rwa [<- Y] at this
 | .four i p j u k v m x,e,a,w,inv,hB,hS,h=>by
   simp only[Region.treeQ,Al,AY] at hB;obtain⟨⟨⟨⟨⟨⟨⟨⟨⟨⟨⟨hi,H⟩,r⟩,hm⟩,f⟩,M⟩,Y⟩,a9⟩,N⟩,O⟩,a0⟩,aa⟩:=hB;have s:i∈Region.ready md l.toArray e:=by rw[f];simp
   have I:j∈Region.ready md l.toArray e:=by rw[f];simp
   have U:k∈Region.ready md l.toArray e:=by rw[f];simp
   have a4:m∈Region.ready md l.toArray e:=by rw[f];simp
   obtain⟨_,o,D,_⟩:=BU.1 s;obtain⟨_,o',E,_⟩:=BU.1 I;obtain⟨_,o'',a1,_⟩:=BU.1 U;obtain⟨_,o3,ab,_⟩:=BU.1 a4;have J:l[i]? = some o:=uq D
   have K:l[j]? = some o':=uq E
   have V:l[k]? = some o'':=uq a1
   have a5:l[m]? = some o3:=uq ab
   have F:(RQ.four i p j u k v m x).pick l=.four o (p.pick l) o' (u.pick l) o'' (v.pick l) o3 (x.pick l):=by simp[RQ.pick,J,K,V,a5]
   rw[F] at h;obtain⟨R,T,h3,h4⟩:=h;refine⟨fun L=>(by rw[L] at s;cases s),fun q W=>?_⟩;rw[f] at W;have a2:q=i\/q=j\/q=k\/q=m:=uq W
   rcases a2 with rfl | rfl | rfl | rfl
   . exact⟨hi,Br (fun C w' b=>⟨b.1,wpHL_of_wpQ t y z A B p _ _ _ (inv.set s hi) N b.1 b.2⟩) (wpOp_of_wpO4 J R)⟩
   . refine⟨H,Br (fun C w' b=>⟨b.1,?_⟩) (wpOp_of_wpO4 K T)⟩
     have:=wpHL_of_wpQ t y z A B u _ _ _ (inv.set I H) O b.1 b.2
     rwa [<- M] at this
   . refine⟨r,Br (fun C w' b=>⟨b.1,?_⟩) (wpOp_of_wpO4 V h3)⟩
     have:=wpHL_of_wpQ t y z A B v _ _ _ (inv.set U r) a0 b.1 b.2
     rwa [<- Y] at this
   refine⟨hm,Br (fun C w' b=>⟨b.1,?_⟩) (wpOp_of_wpO4 a5 h4)⟩
   have:=wpHL_of_wpQ t y z A B x _ _ _ (inv.set a4 hm) aa b.1 b.2
   rwa [<- a9] at this
theorem wp_region_rq {a:Act} {w:World} (S:World->Prop) (n:Nat) (p:RQ) (m:P.follows .mixedOrders=true) (b:Region.rqB .any l.toArray n p=true)
 (o:∀ c a d v w,Q (.panic c) (a.put d v) w->Q (.panic c) a w) (q:S w.drew)
 (h:wpQ P l.toArray Q S (wpList P l.toArray Q (l.drop n)) (p.pick l) a w.drew):(Code.region id l.toArray true).wp P Q a w:=by
 simp only[Region.rqB,Al,AY] at b;obtain⟨⟨⟨⟨⟨r,e⟩,s⟩,u⟩,y⟩,z⟩:=b;have E:n<l.length:=uq e
 have A:HeadInv .any l.toArray n (Array.replicate l.toArray.size false):=
  ⟨sq,fun j F _ f=>(by rw[getD_replicate_false] at f;cases f),fun t _ B=>getD_in (uq B) (getD_replicate_false _ _)⟩
 have H:=wpHL_of_wpQ r u y e o p _ a w.drew A z q h;refine wp_region_any m ?_;have i:(l.drop n).length=l.toArray.size-n:=sq
 have:=XQ (Q:=Q) (g:=l.toArray.size-n) (fun C D w' k=>by
  have:=wpAny_of_seq (md:=.any) (Q':=Q) (l.drop n) n C D w' (fun j=>by simp[BT]) (by rw[i];exact k.1) k.2
  rwa [i] at this) _ _ _ _ H
 rw[s,show n+(l.toArray.size-n)=l.toArray.size from Z] at this;exact this
section moves
variable {L:Act->World->Prop} {o o':Oper} {rest rest':RO} {a:Act} {w:World}
theorem wpQ_nil (h:L a w):wpQ P ops Q S L .nil a w:=h
theorem wpQ_held (v:Value) (b:Region.wanted o (yielded ops a.tmps)=true) (c:∀ w,S w->(execOp a.eval o).run P w=.ok (.value v) w) (h:wpQ P ops Q S L rest (a.put o.dst v) w) :
 wpQ P ops Q S L (.held o rest) a w:=⟨v,.inl ⟨b,c⟩,h⟩
theorem wpQ_loud (c:Region.wanted o (yielded ops a.tmps)=true) (h:∀ K:Act->World->Prop,(∀ b w',S w'->wpQ P ops Q S L rest b w'->K b w')->o.wp P a w K Q) :
 wpQ P ops Q S L (.loud o rest) a w:=by
 show wpO P ops Q o _ a w;unfold wpO;rw[AJ c];exact .inl (h _ fun b w' d e=>⟨d,e⟩)
theorem wpQ_three {b:RO} (c:wpQ P ops Q S L (.loud o rest) a w) (d:wpQ P ops Q S L (.loud o' rest') a w) (e:wpQ P ops Q S L (.loud o'' b) a w):wpQ P ops Q S L (.three o rest o' rest' o'' b) a w:=⟨c,d,e⟩
theorem wpQ_four {b:Oper} {c d:RO} (e:wpQ P ops Q S L (.loud o rest) a w) (f:wpQ P ops Q S L (.loud o' rest') a w) (g:wpQ P ops Q S L (.loud o'' c) a w) (h:wpQ P ops Q S L (.loud b d) a w):wpQ P ops Q S L (.four o rest o' rest' o'' c b d) a w:=⟨e,f,g,h⟩
theorem wpQ_two (b:wpQ P ops Q S L (.loud o rest) a w) (c:wpQ P ops Q S L (.loud o' rest') a w):wpQ P ops Q S L (.two o rest o' rest') a w:=⟨b,c⟩