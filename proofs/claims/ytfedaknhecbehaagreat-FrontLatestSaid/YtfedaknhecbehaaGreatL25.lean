/- Lemmas of the proof, with their conditions. -/
import Derived.Test.YtfedaknhecbehaaGreatL19
import Derived.Test.YtfedaknhecbehaaGreatL24
namespace Go.Proofs.YtfedaknhecbehaaGreat
open Tryz
variable {W w:World} {base p k bc m B2 s b n p1 p2 N bm b2:Nat} {L U v:Value} {F F' F1 F2:List Nat} {l l':List Int} {ds ds':List Bool} {P:Program} {t e:TypeId}
set_option linter.all false
set_option maxHeartbeats 4000000
set_option maxRecDepth 100000
section
open Go.RowKit Go.Shelf
attribute [local go_sem] AZ
theorem PagedIs.putObj {o:Obj} (h:PagedIs W base p L U F l ds) (a:Obj) (b:W.heap[k]? = some o) (c:o.isCells=false):PagedIs (W.putObj k a) base p L U F l ds:=
 ⟨YF a h.blk b c,ownsRow_putObj h.rl a b c,ownsRow_putObj h.rd a b c,h.foot,h.base,h.pos,h.few,h.pages⟩
theorem PagedIs.isCells (h:PagedIs W base p L U F l ds):∀ g∈F,∀ o,W.heap[g]? = some o->o.isCells=true:=by
 intro g a o b;rw[h.foot] at a;simp only[AM,AD] at a;rcases a with rfl | a | a
 . rw[show W.heap[_]? = _ from h.blk] at b;cases b;rfl
 . exact KR h.rl g a o b
 exact KR h.rd g a o b
def Ks (base p n:Nat) (L U:Value) (F:List Nat) (W:World):Prop:=∃ l ds,l.length=n/\PagedIs W base p L U F l ds
abbrev PRnd:=Nat×Int
def KZ (x:PRnd):Array Value:=#[x.1,ii x.2]
def KBo (base p n:Nat) (L U:Value) (F:List Nat) (pre:List PRnd) (x:PRnd) (W:World):Prop:=x.1=pre.length/\∃ l ds,l.length=n/\PagedIs W base p L U F l ds/\l[x.1]? = some x.2
def ZBZ (base p n bc:Nat) (L U:Value) (F:List Nat) (W W':World):Prop:=
 (Boxed W bc 295 (.pointer (some p))->Boxed W' bc 295 (.pointer (some p)))/\(Ks base p n L U F W->Ks base p n L U F W')
theorem ZAJ (n:Nat) (v:Value) (w:World) (a:v.oneCell'=true) :
 CallsIn Fence.wide n prog 233 #[v] w fun e w'=>e=.returned (.func (.func 343) #[] #[pq w.heap.size])/\w'=w.alloc (.cells #[v] 295):=by
 refine(AR (n:=n)).2 ?_;go_enter func233,ntmps233
 go_wp2
 go_ret;exact⟨rfl,rfl⟩
theorem XAS (n:Nat) (b:Ks base p m L U F w) (a:Boxed w bc 295 (.pointer (some p))) :
 XBV n prog 343 #[pq bc] KZ (KBo base p m L U F) (ZBZ base p m bc L U F) (fun xs=>xs.length=m) w:=by
 intro l J W v S K y;replace b:Ks base p m L U F W:=by obtain⟨ls,ds,j,d⟩:=b;exact⟨ls,ds,j,d.kO v⟩
 replace a:Boxed W bc 295 (.pointer (some p)):=(v.block bc a.lt sq).trans a;have A:=a.cell;have M:1<=m/\m<=64:=by obtain⟨ls,ds,j,d⟩:=b;rw[<- j];exact⟨d.pos,d.few⟩
 obtain⟨T,V⟩:=M
 have B:=AR (n:=n-1).2 (show Calls prog 344 #[pq p] W fun e w'=>e=.returned m/\W=w' from by
  obtain⟨ls,ds,j,d⟩:=b;have:=LenP_is W base p F ls ds ⟨L,U,d⟩
  rwa [j] at this)
 refine Cx func343 rfl trivial ?_ rfl;simp only[ntmps343,PL,Nat.reduceAdd,Nat.reduceSub];gi_wp2_with (refine⟨trivial,fun h=>by simp[Fence.wide] at h,?_⟩;refine B.mono ?_;clear B;rintro e w' ⟨rfl,rfl⟩)
 gi_loopw [3,6] (fun _ i wr=>∃ (k:Nat) (o:List PRnd),k<=m/\i=.int .i64 (k:Nat)/\J o wr/\Hid (o.length=k)/\Ks base p m L U F wr/\Boxed wr bc 295 (.pointer (some p)))
  (fun _ i _=>m-(intOf i).toNat)
 case atStart=>exact⟨0,[],AS _,rfl,y,rfl,b,a⟩
 clear b a y A;obtain⟨k,o,X,rfl,C,s,b,a⟩:=hrel;have A:=a.cell;by_cases Y:k<m
 . have a0:((k:Nat):Int)<(m:Nat):=Z
   obtain⟨ls,ds,r,f⟩:=b;obtain⟨g,c,u,N,rfl,rfl,_⟩:=f.forms;have D:=f.cells.1;obtain⟨z,t⟩:∃ z,ls[k]? = some z:=⟨_,AC Z⟩;have O:cl wr (aq g k) (ii z):=QJ f.rl (by simp[VM,i64,t]);obtain⟨fn,a1,a2,a3,E,G⟩:=K o (k,z) wr C ⟨(JA s).symm,ls,ds,r,f,t⟩;dsimp only[KZ] at E;have H:Hid (Ks base p m (.slice (some g) ls.length c) (.slice (some u) ds.length N) F wr):=JB ⟨ls,ds,r,f⟩;rw[r] at D;have a4:=JB r;clear t r f
   gi_wp2
   refine⟨fun h=>by simp[Fence.wide] at h,G.mono ?_⟩;rintro e a5 ⟨rfl,P,Q,I⟩;have R:=I (JA H);clear E G D O H I
   gi_wp2
   go_roundw;case rel=>exact⟨k+1,_,Z,by go_num,P,by show _=_;rw[AE,JA s];rfl,R,Q a⟩
   case measure=>simp[intOf];omega
 obtain rfl:k=m:=Z
 gi_wp2
 go_end0
 exact⟨⟨_,rfl⟩,o,JA s,C⟩
end
section
open Go.RowKit Go.Shelf
attribute [local go_sem] AZ
theorem PagedIs.unique (h:PagedIs W base p L U F l ds) (d:PagedIs W base p L U F l' ds'):l=l':=by
 obtain⟨g,c,u,m,rfl,rfl,_⟩:=h.forms;obtain⟨n,o,r,s,e,_⟩:=d.forms;injection e with e1 e2 e3;refine List.ext_getElem e2 fun i k f=>?_;have a:=Qs h i k;obtain⟨b,t⟩:∃ b,l'[i]? = some b:=⟨_,AC f⟩;have j:=d.rl;rw[<- e2] at j;have b:=QJ j (i:=i) (u:=.int .i64 l'[i]) (by simp[VM,i64,f]);rw[a] at b;simpa using b
def KN (l:List Int):Nat:=l.countP (fun x=>x != -1)
structure KPen (w:World) (B2:Nat) (l:List Int) (pre:List PRnd) (W:World):Prop where
 cnt:Boxed W B2 3 (.int .i64 (KN (pre.map (·.2)):Nat))
 keep:kz w W
 vals:pre.map (·.2)=l.take pre.length
theorem KPen.kept {A B:World} {a:List PRnd} (h:KPen w B2 l a A) (b:kz A B):KPen w B2 l a B:=⟨KA h.cnt b sq,h.keep.tO b,h.vals⟩
theorem KPen.turned {b:List PRnd} {o a:Obj} (h:KPen w B2 l b W) (c:w.heap.size<=k) (d:W.heap[k]? = some o) (e:o.isCells=false):KPen w B2 l b (W.putObj k a):=
 ⟨JC a h.cnt d e,h.keep.putObj c a,h.vals⟩
theorem XAi {I:PImage} (h:ImageAt w base m F I) :
 cr 101 #[pq m] w (KN I.ol:Nat):=by
 obtain⟨p1,p2,F1,F2,h⟩:=h;refine(AR (n:=3)).1 ?_;refine callsIn_of_wp_marks func101 rfl trivial ?_ rfl;simp only[ntmps101,PL,Nat.reduceAdd,Nat.reduceSub];have a7:=fun W (f:kz w W)=>AR (n:=2).2 (JN W base m p1 p2 F F1 F2 I (h.kO f) true)
 gi_wp2_with (first
  | (refine⟨trivial,?_⟩;refine(a7 _ (kq.alloc _)).mono ?_;rintro e w' ⟨rfl,rfl⟩)
  | (refine⟨trivial,?_⟩;refine(ZAJ _ _ _ rfl).mono ?_;rintro e w' ⟨rfl,rfl⟩))
 obtain⟨w1,t⟩:=ex (w.alloc (.cells #[zz] 3));obtain⟨i,u⟩:=ex (w1.alloc (.cells #[pq p2] 295));rw[<- t,<- u];have Y:w1.heap.size=w.heap.size+1:=by rw[t,AN]
 have s2:i.heap.size=w.heap.size+2:=by rw[u,AN,Y]
 have Q:kz w w1:=by rw[t];exact kq.alloc _
 have H:kz w1 i:=by rw[u];exact kq.alloc _
 have J:kz w i:=Q.tO H;have b2:Boxed i w.heap.size 3 (.int .i64 0):=KA (by rw[t];exact Boxed.new w _ _) H sq;have bc:Boxed i (w.heap.size+1) 295 (.pointer (some p2)):=by rw[u,<- Y];exact Boxed.new w1 _ _
 have R:KPen w w.heap.size I.ol [] i:=⟨b2,J,rfl⟩;obtain⟨L,U,M⟩:=h.o;have a8:=M.lt;have S:=XAS 2 (base:=base) (p:=p2) (m:=I.ol.length) (L:=L) (U:=U) (F:=F2) (w:=i) ⟨I.ol,I.od,rfl,M.kO J⟩ bc
 refine ZV (n:=3) (gf:=343) (lb:=#[pq (w.heap.size+1)]) rfl (enters_of func343 (by kernel_rfl) rfl)
  S
  (fun A B C h k=>⟨fun j=>k.1 (h.1 j),fun j=>k.2 (h.2 j)⟩)
  (fun W l o E hl v c=>⟨fun j=>JC E j v c,fun⟨ls,ds,N,G⟩=>⟨ls,ds,N,G.putObj E v c⟩⟩)
  (fun _=>rfl) (KPen w w.heap.size I.ol) (fun s A B h f=>h.kept f) (fun s W l o E h hl v c=>h.turned Z v c)
  (fun d x W l o E h hl v c=>⟨h.1,by obtain⟨ls,ds,N,G,r⟩:=h.2;exact⟨ls,ds,N,G.putObj E v c,r⟩⟩) R
  (fun x=>{ tmps:=#[pq m,undef,pq w.heap.size,undef,.int .i64 x.2,pq m,pq p2,
    .func (.func 343) #[] #[.pointer (some ⟨w.heap.size+1,0,none⟩)],.int .i64 (x.1:Nat),.int .i64 x.2,undef,undef,undef,undef,undef],defers:=[] }) ?assign ?body ?done
 case assign=>
  rintro l ⟨k,z⟩ W K a0;dsimp only[KZ] at a0 ⊢
  gi_wp2
  exact a0
 case body=>
  rintro l d ⟨k,z⟩ W a ⟨f,ls,ds,N,G,r⟩;dsimp only at f r ⊢;obtain rfl:=G.unique (M.kO a.keep);have T:d.length<I.ol.length:=by rw[<- f];exact(BL.1 r).1
  have a1:(d++[(k,z)]).map (·.2)=I.ol.take (d++[(k,z)]).length:=by
   rw[BZ,a.vals,AE,Al,AO T];subst f;rw[AC T] at r;rw[show I.ol[d.length]=z from uq r];rfl
  have V:KN ((d++[(k,z)]).map (·.2))=KN (d.map (·.2))+if z != -1 then 1 else 0:=by
   rw[BZ,KN,KN,DQ];simp[List.countP_singleton]
  have a9:KN (d.map (·.2))<=64:=by
   have h1:=C1 (p:=fun x:Int=>x != -1) (l:=d.map (·.2));rw[BR] at h1;have:=M.few;unfold KN;omega
  obtain⟨q,D⟩:=ex (KN (d.map (·.2)));have b:=a.cnt;rw[<- D] at b a9 V;have aa:=b.cell;have ab:=b.frozen;have ah:=b.lt;have O:=JB a;have a2:=JB V;have a3:=JB a1;clear R b2 bc J Q H t u S a f r D V a1 T;have ac:∀ y:Int,Keep [w.heap.size] W (W.setCell w.heap.size (.int .i64 y)):=fun y=>kq.sc w.heap.size 0;by_cases hz:z = -1
  . subst hz
    gi_wp2
    have a:=JA O;refine⟨(Keep.refl [] W).fromCells sq _,⟨fun h=>h,fun h=>h⟩,⟨?_,a.keep,JA a3⟩⟩;rw[JA a2];simpa using b
  have ad:(z != -1)=true:=uq hz
  gi_wp2
  have a:=JA O;have P:=ac ((q:Nat)+1);refine⟨P.fromCells (fun g hg o c=>?_) _,⟨fun j=>KA j P sq,fun⟨ls',ds',r1,r2⟩=>⟨ls',ds',r1,r2.keep P (fun x hx=>by have:=a8 x hx;simp;omega)⟩⟩,⟨?_,a.keep.trans P iq,JA a3⟩⟩
  . rw[Ak.1 hg] at c
    rw[show W.heap[_]? = _ from b] at c;cases c;rfl
  have:=b.set (.int .i64 ((q:Nat)+1));rw[JA a2,ad];simpa using this
 case done=>
  intro D' xs W ai ae a a4;have X:=a.vals;rw[ae,List.take_length] at X;have b:=a.cnt;rw[X] at b;obtain⟨q,D⟩:=ex (KN I.ol);rw[<- D] at b;have af:=JB D;clear D;have aa:=b.cell;have ab:=b.frozen;have O:=JB a;clear R b2 bc J Q H t u S a X
  gi_wp2
  have a:=JA O;have a5:Keep [w.heap.size] W (W.setCell w.heap.size (.int .i64 (q:Nat))):=kq.sc w.heap.size 0;have a6:(W.setCell w.heap.size (.int .i64 (q:Nat))).heap[D']? = some (.deferred (some [])):=(a5.block D' (AI.1 a4).1 (by simp;omega)).trans a4;have q6:=(JC (.deferred none) (b.set (.int .i64 (q:Nat))) a6 rfl).cell;have ag:=(a.keep.trans a5 iq).putObj (g:=D') Z (.deferred none);refine⟨sq,.inl ⟨_,_,rfl,run_takeDeferred a6,?_⟩⟩;refine⟨.int .i64 (q:Nat),?_,by rw[JA af],ag⟩;simp[results,results101,go_sem,q6]
end
section
open Go.RowKit Go.Shelf
attribute [local go_sem] AZ
theorem ElemN.wpIn_app {z:Value} {i:Nat} (E:ElemN P t e z s i) {F:Fence} {n':Nat} {j:Array Oper} {k:List Oper} {o:Oper} {a:Act} {Q:Exit->Act->World->Prop} (p:o.guard=none) (l x:Operand)
 (f:o.op=.call { callee:=.builtin .append,args:=#[l,x],argTypes:=#[t,t] })
 (base:Nat) (v:Value) (n:Nat) (xs:List Value) (r:a.eval l=v) (y:w.ownsRow base e s v n xs)
 (g:Addr) (m c:Nat) (d:List Value) (A:a.eval x=.slice (some g) m c) (B:Rd w (some g) (m*s) d) (C:∀ u∈d,u.oneCell'=true)
 (D:n+m<=9223372036854775807) (G:(n+m)*i<=140737488355328) (H:base<=w.heap.size)
 (h:∀ b w',w'.ownsRow base e s b (n+m) (xs++d)->Keep v.ownBlock.toList w w'->(b.ownBlock=v.ownBlock\/b.ownBlock=some w.heap.size)->wpListIn F n' P j Q k (a.put o.dst b) w'):wpListIn F n' P j Q (o :: k) a w:=by
 obtain⟨b,w',I,J,L,M,_⟩:=E.run_app w base o.type v n xs y g m c d B C D G H;refine wpListIn_plain p fun K N=>?_;refine⟨?_,?_⟩
 . simp[Oper.about,f,resolve,Target.leads,By]
 rw[Oper.semAt_plain F _ _ (by rw[f];intro c h;cases h)];simp only[execOp,f,resolve,invoke,builtin,Bz,By,BU,Cn,CN,C4,r,A,I];exact N _ _ (h b w' J L M)
theorem PagedAt.putObj {o:Obj} (h:PagedAt W base p F l ds) (a:Obj) (b:W.heap[k]? = some o) (c:o.isCells=false):PagedAt (W.putObj k a) base p F l ds:=by
 obtain⟨L,U,h⟩:=h;exact⟨L,U,h.putObj a b c⟩
theorem PagedAt.unique (h:PagedAt W base p F l ds) (a:PagedAt W base p F' l' ds'):l=l':=by
 obtain⟨L,U,h⟩:=h;obtain⟨d,f,a⟩:=a
 have e:L=d/\U=f:=by
  have c:=h.cells;have b:=a.cells;rw[c.1] at b;rw[c.2.2] at b;exact⟨uq b.1,uq b.2.2⟩
 obtain⟨rfl,rfl⟩:=e;have g:F=F':=h.foot.trans a.foot.symm;subst g;exact h.unique a
def Yj (base p n:Nat) (F:List Nat) (W:World):Prop:=∃ l ds,l.length=n/\PagedAt W base p F l ds
def JBl (base p n:Nat) (F:List Nat) (pre:List PRnd) (x:PRnd) (W:World):Prop:=x.1=pre.length/\∃ l ds,l.length=n/\PagedAt W base p F l ds/\l[x.1]? = some x.2
def QAd (base p n bc:Nat) (F:List Nat) (W W':World):Prop:=
 (Boxed W bc 295 (.pointer (some p))->Boxed W' bc 295 (.pointer (some p)))/\(Yj base p n F W->Yj base p n F W')
theorem YAP (n:Nat) (b:Yj base p m F w) (a:Boxed w bc 295 (.pointer (some p))) :
 XBV n prog 343 #[pq bc] KZ (JBl base p m F) (QAd base p m bc F) (fun xs=>xs.length=m) w:=by
 intro l J W y S M A;replace b:Yj base p m F W:=by obtain⟨ls,ds,f,j⟩:=b;exact⟨ls,ds,f,j.kO y⟩
 replace a:Boxed W bc 295 (.pointer (some p)):=(y.block bc a.lt sq).trans a;have B:=a.cell;have N:1<=m/\m<=64:=by obtain⟨ls,ds,f,j⟩:=b;rw[<- f];exact j.few
 obtain⟨T,V⟩:=N
 have C:=AR (n:=n-1).2 (show Calls prog 344 #[pq p] W fun e w'=>e=.returned m/\W=w' from by
  obtain⟨ls,ds,f,j⟩:=b;have:=LenP_is W base p F ls ds j
  rwa [f] at this)
 refine Cx func343 rfl trivial ?_ rfl;simp only[ntmps343,PL,Nat.reduceAdd,Nat.reduceSub];gi_wp2_with (refine⟨trivial,fun h=>by simp[Fence.wide] at h,?_⟩;refine C.mono ?_;clear C;rintro e w' ⟨rfl,rfl⟩)
 gi_loopw [3,6] (fun _ i wr=>∃ (k:Nat) (o:List PRnd),k<=m/\i=.int .i64 (k:Nat)/\J o wr/\Hid (o.length=k)/\Yj base p m F wr/\Boxed wr bc 295 (.pointer (some p)))
  (fun _ i _=>m-(intOf i).toNat)
 case atStart=>exact⟨0,[],AS _,rfl,A,rfl,b,a⟩
 clear b a A B;obtain⟨k,o,X,rfl,D,s,b,a⟩:=hrel;have B:=a.cell;by_cases Y:k<m
 . have a0:((k:Nat):Int)<(m:Nat):=Z
   obtain⟨ls,ds,r,d⟩:=b;have t:=d;obtain⟨L,U,d⟩:=d;obtain⟨g,c,u,uc,rfl,rfl,_⟩:=d.forms;have E:=d.cells.1;obtain⟨z,v⟩:∃ z,ls[k]? = some z:=⟨_,AC Z⟩;have O:cl wr (aq g k) (ii z):=QJ d.rl (by simp[VM,i64,v]);obtain⟨fn,a1,a2,a3,G,H⟩:=M o (k,z) wr D ⟨(JA s).symm,ls,ds,r,t,v⟩;dsimp only[KZ] at G;have I:Hid (Yj base p m F wr):=JB ⟨ls,ds,r,t⟩;rw[r] at E;have a4:=JB r;clear v r d t
   gi_wp2
   refine⟨fun h=>by simp[Fence.wide] at h,H.mono ?_⟩;rintro e a5 ⟨rfl,P,Q,K⟩;have R:=K (JA I);clear G H E O I K
   gi_wp2
   go_roundw;case rel=>exact⟨k+1,_,Z,by go_num,P,by show _=_;rw[AE,JA s];rfl,R,Q a⟩
   case measure=>simp[intOf];omega
 obtain rfl:k=m:=Z
 gi_wp2
 go_end0
 exact⟨⟨_,rfl⟩,o,JA s,D⟩
end
section
open Go.RowKit Go.Shelf
attribute [local go_sem] AZ
def KeepC (K:List Nat) (W W':World):Prop:=W.heap.size<=W'.heap.size/\∀ k o,k∉K->W.heap[k]? = some o->o.isCells=true->W'.heap[k]? = some o
namespace KeepC
variable {K:List Nat} {A B C:World}
theorem trans (h:KeepC K A B) (k:KeepC K B C):KeepC K A C:=⟨AA h.1 k.1,fun i o hi b a=>k.2 i o hi (h.2 i o hi b a) a⟩
theorem putObj (W:World) {l:Nat} {o:Obj} (c:Obj) (d:W.heap[l]? = some o) (e:o.isCells=false):KeepC K W (W.putObj l c):=
 ⟨by rw[World.putObj_size];exact AG _,fun i q _ a b=>(World.putObj_heap_other (by rintro rfl;rw[d] at a;cases a;rw[e] at b;cases b)).trans a⟩
theorem ofKeep {l:List Nat} (h:Keep l A B) (b:∀ x∈l,x∈K):KeepC K A B:=⟨h.size,fun i o hi a _=>(h.block i (AI.1 a).1 (fun c=>hi (b i c))).trans a⟩
theorem box (h:KeepC K A B) (a:Boxed A b t v) (c:b∉K):Boxed B b t v:=h.2 b _ c a rfl
theorem blk {cs:Array Value} (h:KeepC K A B) (a:Blk A b t cs) (c:b∉K):Blk B b t cs:=h.2 b _ c a rfl
theorem own {xs:List Value} (h:KeepC K A B) (a:A.ownsRow base e s v n xs) (b:∀ g∈v.ownBlock.toList,g∉K):B.ownsRow base e s v n xs:=by
 refine⟨a.1,?_⟩;rcases a.2 with a | ⟨g,cap,c,rfl,d,f,r⟩
 . exact .inl a
 exact .inr ⟨g,cap,c,rfl,d,h.2 g _ (b g (by simp[Value.ownBlock])) f rfl,r⟩
theorem paged (h:KeepC K A B) (a:PagedIs A base p L U F l ds) (c:∀ g∈F,g∉K):PagedIs B base p L U F l ds:=by
 have b:=a.foot;exact⟨h.blk a.blk (c p (by simp[b])),h.own a.rl (fun g d=>c g (by rw[b];simp only[AM,AD];exact .inr (.inl d))),h.own a.rd (fun g d=>c g (by rw[b];simp only[AM,AD];exact .inr (.inr d))),b,a.base,a.pos,a.few,a.pages⟩
theorem image {I:PImage} (h:KeepC K A B) (a:ImageIs A base m p1 p2 F F1 F2 I) (b:∀ g∈F,g∉K):ImageIs B base m p1 p2 F F1 F2 I:=by
 obtain⟨d,e,f⟩:=a.b;obtain⟨i,j,k⟩:=a.o;exact⟨h.blk a.blk (b m (by rw[a.foot];simp)),⟨d,e,h.paged f (fun g c=>b g (a.subB g c))⟩,⟨i,j,h.paged k (fun g c=>b g (a.subO g c))⟩,a.apart,a.m1,a.m2,a.foot,a.base,a.ok⟩
end KeepC
theorem ImageIs.putObjR {I:PImage} {o:Obj} (h:ImageIs W base m p1 p2 F F1 F2 I) (a:Obj) (b:W.heap[k]? = some o) (c:o.isCells=false):ImageIs (W.putObj k a) base m p1 p2 F F1 F2 I:=
 (KeepC.putObj (K:=[]) W a b c).image h sq
theorem KW {l l':Nat} {f:FuncId} {a:Array Value} {b d:Code} {R:Ending->World->Prop} (h:RoundIn Fence.wide n P l f a b d w R):RoundIn (Fence.wide.inRound l') m P l f a b d w R:=
 ⟨h.1,fun c cs _=>h.2 c cs (room_wide _)⟩
theorem PagedIs.unique_of {b c:Value} (h:PagedIs W base p L U F l ds) (a:PagedIs W base p b c F' l' ds'):l=l':=by
 have e:=h.blk.symm.trans a.blk;simp at e;obtain⟨rfl,rfl⟩:=e;have d:F=F':=h.foot.trans a.foot.symm;subst d;exact h.unique a
def KeepR (K:List Nat) (N:Nat) (A B:World):Prop:=KeepC K A B/\KeepsFrom N A B
theorem KeepR.trans {K:List Nat} {A B C:World} (h:KeepR K N A B) (k:KeepR K N B C):KeepR K N A C:=⟨h.1.trans k.1,AA h.2.size k.2.size,fun i o hi b a=>k.2.same i o hi (h.2.same i o hi b a) a⟩
theorem KeepR.putObj {K:List Nat} {l:Nat} {o a:Obj} (e:l<N) (b:W.heap[l]? = some o) (c:o.isCells=false):KeepR K N W (W.putObj l a):=
 ⟨KeepC.putObj W a b c,by rw[World.putObj_size];exact AG _,fun i q hi d _=>(World.putObj_heap_other Z).trans d⟩
def JW (bl ol:List Int):Nat->List PRnd
 | 0=>[]
 | k+1=>JW bl ol k++((if 0<bl.getD k 0 then [(k,bl.getD k 0)] else [])++(if 0<ol.getD k 0 then [(k,ol.getD k 0)] else []))
theorem XBL (n:Nat) (v:Value) (w:World) (a:v.oneCell'=true) :
 CallsIn Fence.wide n prog 102 #[v] w fun e w'=>e=.returned (.func (.func 234) #[] #[pq w.heap.size])/\w'=w.alloc (.cells #[v] 128):=by
 refine(AR (n:=n)).2 ?_;go_enter func102,ntmps102
 go_wp2
 go_ret;exact⟨rfl,rfl⟩
structure KRef (N bm b2 base m p1 p2 l:Nat) (F F1 F2:List Nat) (I:PImage) (J:List PRnd->World->Prop) (pre:List PRnd) (V:World):Prop where
 out:J (JW I.bl I.ol pre.length) V
 img:ImageIs V base m p1 p2 F F1 F2 I
 bm:Boxed V bm 128 (.pointer (some m))
 b2:Boxed V b2 83 (.func (.yield l) #[] #[])
 vals:pre.map (·.2)=I.bl.take pre.length
 size:N<=V.heap.size
theorem KRef.kept {l:Nat} {I:PImage} {J:List PRnd->World->Prop} {b:List PRnd} {A B:World} (h:KRef N bm b2 base m p1 p2 l F F1 F2 I J b A) (c:∀ s A B,J s A->kz A B->J s B) (a:kz A B):KRef N bm b2 base m p1 p2 l F F1 F2 I J b B:=
 ⟨c _ _ _ h.out a,h.img.kO a,KA h.bm a sq,KA h.b2 a sq,h.vals,AA h.size a.size⟩
theorem KRef.turned {B l:Nat} {I:PImage} {J:List PRnd->World->Prop} {d:List PRnd} {V:World} {o a:Obj} (h:KRef N bm b2 base m p1 p2 l F F1 F2 I J d V) (e:∀ s,Qo B (J s)) (f:B<=k) (b:V.heap[k]? = some o) (c:o.isCells=false):KRef N bm b2 base m p1 p2 l F F1 F2 I J d (V.putObj k a):=
 ⟨e _ _ _ _ _ h.out f b c,h.img.putObjR a b c,JC a h.bm b c,JC a h.b2 b c,h.vals,by rw[World.putObj_size];exact h.size⟩
def ZBs (I:PImage) (x:PRnd):Prop:=0<x.2/\(I.bl.getD x.1 0=x.2\/I.ol.getD x.1 0=x.2)
theorem YAI (n:Nat) (K:List Nat) {I:PImage} (h:ImageAt w base m F I) (hbm:Boxed w bm 128 (.pointer (some ⟨m,0,none⟩))) (hKF:∀ g∈F,g∉K) (hKm:bm∉K) (hKlt:∀ g∈K,g<w.heap.size) :
 JBs n prog 234 #[.pointer (some ⟨bm,0,none⟩)] KZ (fun _ x _=>ZBs I x) (KeepR K (w.heap.size+2)) (fun xs=>xs=JW I.bl I.ol I.bl.length) w:=by
 obtain⟨p1,p2,F1,F2,h⟩:=h;intro l J W hW hW2 hJ hJt hY h0;have hsz:=hW.size;replace h:=h.kO hW;replace hbm:Boxed W bm 128 (.pointer (some ⟨m,0,none⟩)):=(hW.block bm hbm.lt sq).trans hbm;refine callsIn_of_wp_marks func234 rfl trivial ?_ rfl;simp only[ntmps234,List.size_toArray,List.length_cons,List.length_nil,Nat.reduceAdd,Nat.reduceSub,Array.replicate_succ,Array.replicate_zero,List.push_toArray,List.append_toArray,List.nil_append,List.cons_append];have hcm:=hbm.cell;have hbml:=hbm.lt;have hT:=fun W' (hk:Keep [] W W')=>callsIn_wide (n:=n-1).2 (JN W' base m p1 p2 F F1 F2 I (h.kO hk) false)
 gi_wp2_with (first
  | (refine⟨trivial,fun h=>by simp[Fence.wide] at h,?_⟩;refine(hT _ (kq.alloc _)).mono ?_;rintro e w' ⟨rfl,rfl⟩)
  | (refine⟨trivial,fun h=>by simp[Fence.wide] at h,?_⟩;refine(ZAJ _ _ _ rfl).mono ?_;rintro e w' ⟨rfl,rfl⟩))
 obtain⟨w1,hw1⟩:∃ w1,w1=W.alloc (.cells #[.func (.yield l) #[] #[]] 83):=⟨_,rfl⟩;obtain⟨w2,hw2⟩:∃ w2,w2=w1.alloc (.cells #[.pointer (some ⟨p1,0,none⟩)] 295):=⟨_,rfl⟩;rw[<- hw1,<- hw2];have s1:w1.heap.size=W.heap.size+1:=by rw[hw1,World.size_alloc]
 have s2:w2.heap.size=W.heap.size+2:=by rw[hw2,World.size_alloc,s1]
 have k1:Keep [] W w1:=by rw[hw1];exact kq.alloc _
 have k2:Keep [] w1 w2:=by rw[hw2];exact kq.alloc _
 have kw:Keep [] W w2:=k1.tO k2;have b2:Boxed w2 W.heap.size 83 (.func (.yield l) #[] #[]):=KA (by rw[hw1];exact Boxed.new W _ _) k2 sq;have bc:Boxed w2 (W.heap.size+1) 295 (.pointer (some ⟨p1,0,none⟩)):=by rw[hw2,<- s1];exact Boxed.new w1 _ _
 have hi0:KRef w2.heap.size bm W.heap.size base m p1 p2 l F F1 F2 I J [] w2:=⟨hJ _ _ _ h0 kw,h.kO kw,KA hbm kw sq,b2,rfl,Nat.le_refl _⟩;obtain⟨L,U,hP⟩:=h.b;have hlt:=h.lt;have hseq:=XAS (n-1) (base:=base) (p:=p1) (m:=I.bl.length) (L:=L) (U:=U) (F:=F1) (w:=w2) ⟨I.bl,I.bd,rfl,hP.kO kw⟩ bc
 refine ZV (n:=n) (gf:=343) (lb:=#[.pointer (some ⟨W.heap.size+1,0,none⟩)]) rfl (enters_of func343 (by kernel_rfl) rfl)
  hseq
  (fun A B C h k=>⟨fun hb=>k.1 (h.1 hb),fun hb=>k.2 (h.2 hb)⟩)
  (fun W l o o' hl hg' ho=>⟨fun hb=>JC o' hb hg' ho,fun⟨ls,ds,q1,q2⟩=>⟨ls,ds,q1,q2.putObj o' hg' ho⟩⟩)
  (fun _=>rfl) (KRef w2.heap.size bm W.heap.size base m p1 p2 l F F1 F2 I J) (fun s A B h hk=>h.kept hJ hk) (fun s V l o o' h hl hg' ho=>h.turned hJt Z hg' ho)
  (fun pre x W l o o' h hl hg' ho=>⟨h.1,by obtain⟨ls,ds,q1,q2,q3⟩:=h.2;exact⟨ls,ds,q1,q2.putObj o' hg' ho,q3⟩⟩) hi0
  (fun x=>{ tmps:=#[.func (.yield l) #[] #[],.pointer (some ⟨bm,0,none⟩),.pointer (some ⟨W.heap.size,0,none⟩),.int .i64 (x.1:Nat),.int .i64 x.2,undef,undef,.pointer (some ⟨m,0,none⟩),.pointer (some ⟨p1,0,none⟩),
    .func (.func 343) #[] #[.pointer (some ⟨W.heap.size+1,0,none⟩)],.int .i64 (x.1:Nat),.int .i64 x.2,undef,undef,undef,undef,undef,undef,undef,undef,undef,undef,undef,undef,undef,undef,undef,undef,undef,undef,undef,undef,undef,undef,undef,undef,undef,undef,undef,undef,undef],defers:=[] }) ?assign ?body ?done
 case assign=>
  rintro l' ⟨k,z⟩ V K' hK;dsimp only[KZ] at hK ⊢
  gi_wp2
  exact hK
 case body=>
  rintro l' pre ⟨k,z⟩ V hI ⟨hk,ls,ds,q1,q2,q3⟩;dsimp only at hk q3 ⊢;obtain⟨L1,U1,hPb⟩:=hI.img.b
  have hkl:k<I.ol.length:=by
   have:=(List.getElem?_eq_some_iff.1 q3).1;rw[<- hI.img.ok.1];omega
  have hG:=callsIn_wide (n:=n-1-1-1).2 (Jm V base p2 F2 I.ol I.od hI.img.o k hkl);have hcm:=hI.bm.cell;have hc2:=hI.b2.cell;have hp2:=hI.img.cells.2
  have hzb0:I.bl.getD k 0=z:=by
   obtain⟨Lb,Ub,hPb'⟩:=hI.img.b;have q3':=q3;rw[q2.unique_of hPb'] at q3';rw[List.getD_eq_getElem?_getD,q3'];rfl
  have HZB:=JB hzb0;clear hzb0;obtain⟨y,hy⟩:∃ y,y=I.ol[k]:=⟨_,rfl⟩;rw[<- hy] at hG;have HY:=JB hy;have HYO:Hid (I.ol.getD k 0=y):=JB (by rw[Yg hkl,hy]);have HI:=JB hI;have HK:=JB hk;have HQ:=JB q3;have HQ1:=JB q1;have HQ2:=JB q2;clear hi0 b2 bc kw k1 k2 hw1 hw2 hseq hI q3 hy h0 hk q1 q2;have hI:=JA HI
  have hstep:∀ ys V',J (JW I.bl I.ol pre.length++ys) V'->KeepR K (w.heap.size+2) V V'->ys=((if 0<z then [(k,z)] else [])++(if 0<y then [(k,y)] else [])) ->
   JAd w2.heap.size (ZBZ base p1 I.bl.length (W.heap.size+1) L U F1) (KRef w2.heap.size bm W.heap.size base m p1 p2 l F F1 F2 I J (pre++[(k,z)])) V .normal { tmps:=#[],defers:=[] } V':=fun ys V' hJ' hk' hys=>by
   have hk:=JA HK;have q3:=JA HQ
   have hsame:ls=I.bl:=by
    obtain⟨Lb,Ub,hPb'⟩:=hI.img.b;exact(JA HQ2).unique_of hPb'
   rw[hsame] at q3;have hkl':=(List.getElem?_eq_some_iff.1 q3).1;have hzb:I.bl.getD k 0=z:=by rw[List.getD_eq_getElem?_getD,q3];rfl
   have hyo:I.ol.getD k 0=y:=by rw[Yg hkl,JA HY]
   have hK2:W.heap.size∉K:=fun hm=>by have:=hKlt _ hm;omega
   have hK3:W.heap.size+1∉K:=fun hm=>by have:=hKlt _ hm;omega
   refine⟨⟨hk'.2.size,fun i o hi ho hc=>hk'.2.same i o Z ho hc⟩,⟨fun hb=>hk'.1.box hb hK3,fun⟨ls',ds',r1,r2⟩=>⟨ls',ds',r1,hk'.1.paged r2 (fun g hg=>hKF g (h.subB g hg))⟩⟩,⟨?_,hk'.1.image hI.img hKF,hk'.1.box hI.bm hKm,hk'.1.box hI.b2 hK2,?_,Nat.le_trans hI.size hk'.1.1⟩⟩
   . have e:JW I.bl I.ol (pre.length+1)=JW I.bl I.ol pre.length++ys:=by rw[hys,JW,<- hk,hzb,hyo]
     rw[List.length_append,List.length_singleton,e];exact hJ'
   . rw[List.map_append,hI.vals,List.length_append,List.length_singleton,<- hk,List.take_succ_eq_append_getElem hkl']
     rw[List.getElem?_eq_getElem hkl'] at q3;rw[show I.bl[k]=z by simpa using q3];rfl
  have HST:=JB hstep;clear hstep hI;have hK2:W.heap.size∉K:=fun hm=>by have:=hKlt _ hm;omega
  by_cases hz:0<z
  . by_cases hyp:0<y
    . obtain⟨fn,tmps,assign,body,hy1,hR1⟩:=hY (JW I.bl I.ol pre.length) (k,z) V (JA HI).out ⟨hz,.inl (JA HZB)⟩
      dsimp only[KZ] at hy1;gi_wp2_with (refine⟨trivial,fun h=>by simp[Fence.wide] at h,?_⟩;refine hG.mono ?_;clear hG;rintro e w' ⟨rfl,rfl⟩);refine⟨fun h=>by simp[Fence.wide] at h,(KW hR1).mono ?_⟩;rintro e V1 ⟨rfl,hJ1,hk1⟩;obtain⟨fn2,tmps2,assign2,body2,hy2,hR2⟩:=hY (JW I.bl I.ol pre.length++[(k,z)]) (k,y) V1 hJ1 ⟨hyp,.inr (JA HYO)⟩;dsimp only[KZ] at hy2;have hb2V:=hk1.1.box (JA HI).b2 hK2;have hc2':=hb2V.cell;clear hy1 hR1 hcm hc2 hp2
      gi_wp2
      refine⟨fun h=>by simp[Fence.wide] at h,(KW hR2).mono ?_⟩;rintro e V2 ⟨rfl,hJ2,hk2⟩;clear hy2 hR2
      gi_wp2
      exact JA HST ([(k,z)]++[(k,y)]) V2 (by rw[<- List.append_assoc];exact hJ2) (hk1.trans hk2) (by rw[if_pos hz,if_pos hyp])
    . obtain⟨fn,tmps,assign,body,hy1,hR1⟩:=hY (JW I.bl I.ol pre.length) (k,z) V (JA HI).out ⟨hz,.inl (JA HZB)⟩
      dsimp only[KZ] at hy1;gi_wp2_with (refine⟨trivial,fun h=>by simp[Fence.wide] at h,?_⟩;refine hG.mono ?_;clear hG;rintro e w' ⟨rfl,rfl⟩);refine⟨fun h=>by simp[Fence.wide] at h,(KW hR1).mono ?_⟩;rintro e V1 ⟨rfl,hJ1,hk1⟩;clear hy1 hR1 hcm hc2 hp2
      gi_wp2
      refine⟨fun f h=>(by cases h),?_⟩
      gi_wp2
      exact JA HST [(k,z)] V1 hJ1 hk1 (by rw[if_pos hz,if_neg Z];rfl)
  . by_cases hyp:0<y
    . obtain⟨fn,tmps,assign,body,hy1,hR1⟩:=hY (JW I.bl I.ol pre.length) (k,y) V (JA HI).out ⟨hyp,.inr (JA HYO)⟩
      dsimp only[KZ] at hy1;gi_wp2_with (refine⟨trivial,fun h=>by simp[Fence.wide] at h,?_⟩;refine hG.mono ?_;clear hG;rintro e w' ⟨rfl,rfl⟩);refine⟨fun f h=>(by cases h),?_⟩
      gi_wp2
      refine⟨fun h=>by simp[Fence.wide] at h,(KW hR1).mono ?_⟩;rintro e V1 ⟨rfl,hJ1,hk1⟩;clear hy1 hR1 hcm hc2 hp2
      gi_wp2
      exact JA HST [(k,y)] V1 hJ1 hk1 (by rw[if_neg Z,if_pos hyp];rfl)
    . gi_wp2_with (refine⟨trivial,fun h=>by simp[Fence.wide] at h,?_⟩;refine hG.mono ?_;clear hG;rintro e w' ⟨rfl,rfl⟩)
      refine⟨fun f h=>(by cases h),?_⟩
      gi_wp2
      rw[<- s2];exact JA HST [] V (by rw[List.append_nil];exact(JA HI).out) ⟨KeepC.ofKeep (Keep.refl [] V) sq,Nat.le_refl _,fun i o _ ho _=>ho⟩ (by rw[if_neg Z,if_neg Z];rfl)
 case done=>
  intro D' xs V hD' hS hI hdef;have HI:=JB hI;clear hi0 b2 bc kw k1 k2 hw1 hw2 hseq hI h0
  gi_wp2
  have hI:=JA HI;refine⟨sq,.inl ⟨_,_,rfl,run_takeDeferred hdef,?_⟩⟩;refine⟨.tuple #[],?_,⟨_,rfl⟩,_,rfl,?_⟩
  . simp[results,results234,go_sem]
  . have:=hJt _ _ _ _ (.deferred none) hI.out Z hdef rfl
    rwa [hS] at this
theorem VBG (n:Nat) (K:List Nat) {I:PImage} (h:ImageAt w base m F I) (a:Boxed w bm 128 (.pointer (some m))) (b:∀ g∈F,g∉K) (c:bm∉K) (d:∀ g∈K,g<w.heap.size) :
 JBs n prog 234 #[pq bm] KZ (fun _ _ _=>True) (KeepR K (w.heap.size+2)) (fun xs=>xs=JW I.bl I.ol I.bl.length) w:=
 fun l J W e f i j k o=>YAI n K h a b c d l J W e f i j (fun p x r s _=>k p x r s trivial) o
end
section
open Go.RowKit Go.Shelf
attribute [local go_sem] AZ
theorem ZAm (n:Nat) {I:PImage} (h:ImageAt w base m F I) (d:Boxed w bm 128 (.pointer (some m))) (f:∀ k,I.bl.getD k 0<=0/\I.ol.getD k 0<=0) (l:Nat) (g:kz w W) (i:w.heap.size+2<=W.heap.size) :
 CallsIn Fence.wide n prog 234 (#[.func (.yield l) #[] #[]]++#[.pointer (some bm)]) W fun e W'=>(∃ v,e=.returned v)/\kz W W':=by
 refine(YAI n (base:=base) (m:=m) [] (F:=F) (I:=I) (w:=w) h d sq sq sq l (fun b V=>b=[]/\kz W V) W g i (fun s A B h j=>⟨h.1,h.2.tO j⟩) (fun s V k o p h r u y=>⟨h.1,h.2.putObj r p⟩) (fun b x z h t=>?_) ⟨rfl,kq⟩).mono ?_
 . obtain⟨c,a⟩:=t
   have:=f x.1;rcases a with a | a <;> omega
 rintro e W' ⟨c,xs,_,a⟩;exact⟨c,a.2⟩