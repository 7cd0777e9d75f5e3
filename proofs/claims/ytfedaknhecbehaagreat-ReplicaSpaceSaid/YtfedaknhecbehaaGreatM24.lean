/- Lemmas of the proof, with their conditions. -/
import Derived.Test.YtfedaknhecbehaaGreatM18
import Derived.Test.YtfedaknhecbehaaGreatM23
namespace Go.Proofs.YtfedaknhecbehaaGreat
open Tryz
variable {W w:World} {base p k bc m B2 s b n p1 p2 N bm b2:Nat} {L U v:Value} {F F' F1 F2:List Nat} {l l':List Int} {ds ds':List Bool} {P:Program} {t e:TypeId}
set_option linter.all false
set_option maxHeartbeats 4000000
set_option maxRecDepth 100000
section
open Go.RowKit Go.Shelf
attribute [local go_sem] AW
theorem PagedIs.putObj {o:Obj} (h:PagedIs W base p L U F l ds) (a:Obj) (b:W.heap[k]? = some o) (c:o.isCells=false):PagedIs (W.putObj k a) base p L U F l ds:=
 ⟨XH a h.blk b c,ownsRow_putObj h.rl a b c,ownsRow_putObj h.rd a b c,h.foot,h.base,h.pos,h.few,h.pages⟩
theorem PagedIs.isCells (h:PagedIs W base p L U F l ds):∀ g∈F,∀ o,W.heap[g]? = some o->o.isCells=true:=by
 intro g a o b;rw[h.foot] at a;simp only[AL,AD] at a;rcases a with rfl | a | a
 . rw[show W.heap[_]? = _ from h.blk] at b;cases b;rfl
 . exact JT h.rl g a o b
 exact JT h.rd g a o b
def Jo (base p n:Nat) (L U:Value) (F:List Nat) (W:World):Prop:=∃ l ds,l.length=n/\PagedIs W base p L U F l ds
abbrev PRnd:=Nat×Int
def YY (x:PRnd):Array Value:=#[x.1,ii x.2]
def YBj (base p n:Nat) (L U:Value) (F:List Nat) (pre:List PRnd) (x:PRnd) (W:World):Prop:=x.1=pre.length/\∃ l ds,l.length=n/\PagedIs W base p L U F l ds/\l[x.1]? = some x.2
def YBU (base p n bc:Nat) (L U:Value) (F:List Nat) (W W':World):Prop:=
 (Boxed W bc 295 (.pointer (some p))->Boxed W' bc 295 (.pointer (some p)))/\(Jo base p n L U F W->Jo base p n L U F W')
theorem KAU (n:Nat) (v:Value) (w:World) (a:v.oneCell'=true) :
 CallsIn Fence.wide n prog 233 #[v] w fun e w'=>e=.returned (.func (.func 343) #[] #[pq w.heap.size])/\w'=w.alloc (.cells #[v] 295):=by
 refine(AQ (n:=n)).2 ?_;go_enter func233,ntmps233
 go_wp2
 go_ret;exact⟨rfl,rfl⟩
theorem JAO (n:Nat) (b:Jo base p m L U F w) (a:Boxed w bc 295 (.pointer (some p))) :
 ZBI n prog 343 #[pq bc] YY (YBj base p m L U F) (YBU base p m bc L U F) (fun xs=>xs.length=m) w:=by
 intro l J W t R I v;replace b:Jo base p m L U F W:=by obtain⟨ls,ds,j,d⟩:=b;exact⟨ls,ds,j,d.kO t⟩
 replace a:Boxed W bc 295 (.pointer (some p)):=(t.block bc a.lt sq).trans a;have y:=a.cell;have K:1<=m/\m<=64:=by obtain⟨ls,ds,j,d⟩:=b;rw[<- j];exact⟨d.pos,d.few⟩
 obtain⟨S,T⟩:=K
 have A:=AQ (n:=n-1).2 (show Calls prog 344 #[pq p] W fun e w'=>e=.returned m/\W=w' from by
  obtain⟨ls,ds,j,d⟩:=b;have:=LenP_is W base p F ls ds ⟨L,U,d⟩
  rwa [j] at this)
 refine Cd func343 rfl trivial ?_ rfl;simp only[ntmps343,PL,Nat.reduceAdd,Nat.reduceSub];gi_wp2_with (refine⟨trivial,fun h=>by simp[Fence.wide] at h,?_⟩;refine A.mono ?_;clear A;rintro e w' ⟨rfl,rfl⟩)
 gi_loopw [3,6] (fun _ i wr=>∃ (k:Nat) (o:List PRnd),k<=m/\i=.int .i64 (k:Nat)/\J o wr/\Hid (o.length=k)/\Jo base p m L U F wr/\Boxed wr bc 295 (.pointer (some p)))
  (fun _ i _=>m-(intOf i).toNat)
 case atStart=>exact⟨0,[],AP _,rfl,v,rfl,b,a⟩
 clear b a v y;obtain⟨k,o,V,rfl,B,r,b,a⟩:=hrel;have y:=a.cell;by_cases X:k<m
 . have Y:((k:Nat):Int)<(m:Nat):=Z
   obtain⟨ls,ds,q,f⟩:=b;obtain⟨g,c,u,M,rfl,rfl,_⟩:=f.forms;have C:=f.cells.1;obtain⟨z,s⟩:∃ z,ls[k]? = some z:=⟨_,AC Z⟩;have N:cl wr (aq g k) (ii z):=YI f.rl (by simp[KW,i64,s]);obtain⟨fn,a0,a1,a2,D,E⟩:=I o (k,z) wr B ⟨(ZA r).symm,ls,ds,q,f,s⟩;dsimp only[YY] at D;have G:Hid (Jo base p m (.slice (some g) ls.length c) (.slice (some u) ds.length M) F wr):=ZB ⟨ls,ds,q,f⟩;rw[q] at C;have a3:=ZB q;clear s q f
   gi_wp2
   refine⟨fun h=>by simp[Fence.wide] at h,E.mono ?_⟩;rintro e a4 ⟨rfl,O,P,H⟩;have Q:=H (ZA G);clear D E C N G H
   gi_wp2
   go_roundw;case rel=>exact⟨k+1,_,Z,by go_num,O,by show _=_;rw[AE,ZA r];rfl,Q,P a⟩
   case measure=>simp[intOf];omega
 obtain rfl:k=m:=Z
 gi_wp2
 go_end0
 exact⟨⟨_,rfl⟩,o,ZA r,B⟩
end
section
open Go.RowKit Go.Shelf
attribute [local go_sem] AW
theorem PagedIs.unique (h:PagedIs W base p L U F l ds) (d:PagedIs W base p L U F l' ds'):l=l':=by
 obtain⟨g,c,u,m,rfl,rfl,_⟩:=h.forms;obtain⟨n,o,q,r,e,_⟩:=d.forms;injection e with e1 e2 e3;refine List.ext_getElem e2 fun i k f=>?_;have a:=Zo h i k;obtain⟨b,s⟩:∃ b,l'[i]? = some b:=⟨_,AC f⟩;have j:=d.rl;rw[<- e2] at j;have b:=YI j (i:=i) (u:=.int .i64 l'[i]) (by simp[KW,i64,f]);rw[a] at b;simpa using b
def ZM (l:List Int):Nat:=l.countP (fun x=>x != -1)
structure KPen (w:World) (B2:Nat) (l:List Int) (pre:List PRnd) (W:World):Prop where
 cnt:Boxed W B2 3 (.int .i64 (ZM (pre.map (·.2)):Nat))
 keep:kz w W
 vals:pre.map (·.2)=l.take pre.length
theorem KPen.kept {A B:World} {a:List PRnd} (h:KPen w B2 l a A) (b:kz A B):KPen w B2 l a B:=⟨JA h.cnt b sq,h.keep.tO b,h.vals⟩
theorem KPen.turned {b:List PRnd} {o a:Obj} (h:KPen w B2 l b W) (c:w.heap.size<=k) (d:W.heap[k]? = some o) (e:o.isCells=false):KPen w B2 l b (W.putObj k a):=
 ⟨ZC a h.cnt d e,h.keep.putObj c a,h.vals⟩
theorem YAg {I:PImage} (h:ImageAt w base m F I) :
 cr 101 #[pq m] w (ZM I.ol:Nat):=by
 obtain⟨p1,p2,F1,F2,h⟩:=h;refine(AQ (n:=3)).1 ?_;refine callsIn_of_wp_marks func101 rfl trivial ?_ rfl;simp only[ntmps101,PL,Nat.reduceAdd,Nat.reduceSub];have a7:=fun W (f:kz w W)=>AQ (n:=2).2 (YR W base m p1 p2 F F1 F2 I (h.kO f) true)
 gi_wp2_with (first
  | (refine⟨trivial,?_⟩;refine(a7 _ (kq.alloc _)).mono ?_;rintro e w' ⟨rfl,rfl⟩)
  | (refine⟨trivial,?_⟩;refine(KAU _ _ _ rfl).mono ?_;rintro e w' ⟨rfl,rfl⟩))
 obtain⟨w1,t⟩:=ex (w.alloc (.cells #[zz] 3));obtain⟨i,u⟩:=ex (w1.alloc (.cells #[pq p2] 295));rw[<- t,<- u];have Y:w1.heap.size=w.heap.size+1:=by rw[t,AM]
 have s2:i.heap.size=w.heap.size+2:=by rw[u,AM,Y]
 have Q:kz w w1:=by rw[t];exact kq.alloc _
 have H:kz w1 i:=by rw[u];exact kq.alloc _
 have J:kz w i:=Q.tO H;have b2:Boxed i w.heap.size 3 (.int .i64 0):=JA (by rw[t];exact Boxed.new w _ _) H sq;have bc:Boxed i (w.heap.size+1) 295 (.pointer (some p2)):=by rw[u,<- Y];exact Boxed.new w1 _ _
 have R:KPen w w.heap.size I.ol [] i:=⟨b2,J,rfl⟩;obtain⟨L,U,M⟩:=h.o;have a8:=M.lt;have S:=JAO 2 (base:=base) (p:=p2) (m:=I.ol.length) (L:=L) (U:=U) (F:=F2) (w:=i) ⟨I.ol,I.od,rfl,M.kO J⟩ bc
 refine ZU (n:=3) (gf:=343) (lb:=#[pq (w.heap.size+1)]) rfl (enters_of func343 (by kernel_rfl) rfl)
  S
  (fun A B C h k=>⟨fun j=>k.1 (h.1 j),fun j=>k.2 (h.2 j)⟩)
  (fun W l o E hl v c=>⟨fun j=>ZC E j v c,fun⟨ls,ds,N,G⟩=>⟨ls,ds,N,G.putObj E v c⟩⟩)
  (fun _=>rfl) (KPen w w.heap.size I.ol) (fun s A B h f=>h.kept f) (fun s W l o E h hl v c=>h.turned Z v c)
  (fun d x W l o E h hl v c=>⟨h.1,by obtain⟨ls,ds,N,G,r⟩:=h.2;exact⟨ls,ds,N,G.putObj E v c,r⟩⟩) R
  (fun x=>{ tmps:=#[pq m,undef,pq w.heap.size,undef,.int .i64 x.2,pq m,pq p2,
    .func (.func 343) #[] #[.pointer (some ⟨w.heap.size+1,0,none⟩)],.int .i64 (x.1:Nat),.int .i64 x.2,undef,undef,undef,undef,undef],defers:=[] }) ?assign ?body ?done
 case assign=>
  rintro l ⟨k,z⟩ W K a0;dsimp only[YY] at a0 ⊢
  gi_wp2
  exact a0
 case body=>
  rintro l d ⟨k,z⟩ W a ⟨f,ls,ds,N,G,r⟩;dsimp only at f r ⊢;obtain rfl:=G.unique (M.kO a.keep);have T:d.length<I.ol.length:=by rw[<- f];exact(BS.1 r).1
  have a1:(d++[(k,z)]).map (·.2)=I.ol.take (d++[(k,z)]).length:=by
   rw[Bf,a.vals,AE,Af,AO T];subst f;rw[AC T] at r;rw[show I.ol[d.length]=z from uq r];rfl
  have V:ZM ((d++[(k,z)]).map (·.2))=ZM (d.map (·.2))+if z != -1 then 1 else 0:=by
   rw[Bf,ZM,ZM,Ce];simp[D9]
  have a9:ZM (d.map (·.2))<=64:=by
   have h1:=Ca (p:=fun x:Int=>x != -1) (l:=d.map (·.2));rw[CJ] at h1;have:=M.few;unfold ZM;omega
  obtain⟨q,D⟩:=ex (ZM (d.map (·.2)));have b:=a.cnt;rw[<- D] at b a9 V;have aa:=b.cell;have ab:=b.frozen;have ah:=b.lt;have O:=ZB a;have a2:=ZB V;have a3:=ZB a1;clear R b2 bc J Q H t u S a f r D V a1 T;have ac:∀ y:Int,Keep [w.heap.size] W (W.setCell w.heap.size (.int .i64 y)):=fun y=>kq.sc w.heap.size 0;by_cases hz:z = -1
  . subst hz
    gi_wp2
    have a:=ZA O;refine⟨(Keep.refl [] W).fromCells sq _,⟨fun h=>h,fun h=>h⟩,⟨?_,a.keep,ZA a3⟩⟩;rw[ZA a2];simpa using b
  have ad:(z != -1)=true:=uq hz
  gi_wp2
  have a:=ZA O;have P:=ac ((q:Nat)+1);refine⟨P.fromCells (fun g hg o c=>?_) _,⟨fun j=>JA j P sq,fun⟨ls',ds',r1,r2⟩=>⟨ls',ds',r1,r2.keep P (fun x hx=>by have:=a8 x hx;simp;omega)⟩⟩,⟨?_,a.keep.trans P iq,ZA a3⟩⟩
  . rw[Ag.1 hg] at c
    rw[show W.heap[_]? = _ from b] at c;cases c;rfl
  have:=b.set (.int .i64 ((q:Nat)+1))
  rw[ZA a2,ad];simpa using this
 case done=>
  intro D' xs W ai ae a a4;have X:=a.vals;rw[ae,List.take_length] at X;have b:=a.cnt;rw[X] at b;obtain⟨q,D⟩:=ex (ZM I.ol);rw[<- D] at b;have af:=ZB D;clear D;have aa:=b.cell;have ab:=b.frozen;have O:=ZB a;clear R b2 bc J Q H t u S a X
  gi_wp2
  have a:=ZA O;have a5:Keep [w.heap.size] W (W.setCell w.heap.size (.int .i64 (q:Nat))):=kq.sc w.heap.size 0;have a6:(W.setCell w.heap.size (.int .i64 (q:Nat))).heap[D']? = some (.deferred (some [])):=(a5.block D' (AR.1 a4).1 (by simp;omega)).trans a4;have q6:=(ZC (.deferred none) (b.set (.int .i64 (q:Nat))) a6 rfl).cell;have ag:=(a.keep.trans a5 iq).putObj (g:=D') Z (.deferred none);refine⟨sq,.inl ⟨_,_,rfl,run_takeDeferred a6,?_⟩⟩;refine⟨.int .i64 (q:Nat),?_,by rw[ZA af],ag⟩;simp[results,results101,go_sem,q6]
end
section
open Go.RowKit Go.Shelf
attribute [local go_sem] AW
theorem ElemN.wpIn_app {z:Value} {i:Nat} (E:ElemN P t e z s i) {F:Fence} {n':Nat} {j:Array Oper} {k:List Oper} {o:Oper} {a:Act} {Q:Exit->Act->World->Prop} (p:o.guard=none) (l x:Operand)
 (f:o.op=.call { callee:=.builtin .append,args:=#[l,x],argTypes:=#[t,t] })
 (base:Nat) (v:Value) (n:Nat) (xs:List Value) (q:a.eval l=v) (r:w.ownsRow base e s v n xs)
 (g:Addr) (m c:Nat) (d:List Value) (y:a.eval x=.slice (some g) m c) (A:Rd w (some g) (m*s) d) (B:∀ u∈d,u.oneCell'=true)
 (C:n+m<=9223372036854775807) (D:(n+m)*i<=140737488355328) (G:base<=w.heap.size)
 (h:∀ b w',w'.ownsRow base e s b (n+m) (xs++d)->Keep v.ownBlock.toList w w'->(b.ownBlock=v.ownBlock\/b.ownBlock=some w.heap.size)->wpListIn F n' P j Q k (a.put o.dst b) w'):wpListIn F n' P j Q (o :: k) a w:=by
 obtain⟨b,w',H,I,J,L,_⟩:=E.run_app w base o.type v n xs r g m c d A B C D G;refine wpListIn_plain p fun K M=>?_;refine⟨?_,?_⟩
 . simp[Oper.about,f,resolve,Target.leads,B7]
 rw[Oper.semAt_plain F _ _ (by rw[f];intro c h;cases h)]
 simp only[execOp,f,resolve,invoke,builtin,B8,B7,BV,Co,CN,Cx,q,y,H];exact M _ _ (h b w' I J L)
theorem PagedAt.putObj {o:Obj} (h:PagedAt W base p F l ds) (a:Obj) (b:W.heap[k]? = some o) (c:o.isCells=false):PagedAt (W.putObj k a) base p F l ds:=by
 obtain⟨L,U,h⟩:=h;exact⟨L,U,h.putObj a b c⟩
theorem PagedAt.unique (h:PagedAt W base p F l ds) (a:PagedAt W base p F' l' ds'):l=l':=by
 obtain⟨L,U,h⟩:=h;obtain⟨d,f,a⟩:=a
 have e:L=d/\U=f:=by
  have c:=h.cells;have b:=a.cells;rw[c.1] at b;rw[c.2.2] at b;exact⟨uq b.1,uq b.2.2⟩
 obtain⟨rfl,rfl⟩:=e;have g:F=F':=h.foot.trans a.foot.symm;subst g;exact h.unique a
def Xi (base p n:Nat) (F:List Nat) (W:World):Prop:=∃ l ds,l.length=n/\PagedAt W base p F l ds
def YBZ (base p n:Nat) (F:List Nat) (pre:List PRnd) (x:PRnd) (W:World):Prop:=x.1=pre.length/\∃ l ds,l.length=n/\PagedAt W base p F l ds/\l[x.1]? = some x.2
def QAr (base p n bc:Nat) (F:List Nat) (W W':World):Prop:=
 (Boxed W bc 295 (.pointer (some p))->Boxed W' bc 295 (.pointer (some p)))/\(Xi base p n F W->Xi base p n F W')
theorem VAy (n:Nat) (b:Xi base p m F w) (a:Boxed w bc 295 (.pointer (some p))) :
 ZBI n prog 343 #[pq bc] YY (YBZ base p m F) (QAr base p m bc F) (fun xs=>xs.length=m) w:=by
 intro l J W v R K y;replace b:Xi base p m F W:=by obtain⟨ls,ds,f,j⟩:=b;exact⟨ls,ds,f,j.kO v⟩
 replace a:Boxed W bc 295 (.pointer (some p)):=(v.block bc a.lt sq).trans a;have A:=a.cell;have M:1<=m/\m<=64:=by obtain⟨ls,ds,f,j⟩:=b;rw[<- f];exact j.few
 obtain⟨S,T⟩:=M
 have B:=AQ (n:=n-1).2 (show Calls prog 344 #[pq p] W fun e w'=>e=.returned m/\W=w' from by
  obtain⟨ls,ds,f,j⟩:=b;have:=LenP_is W base p F ls ds j
  rwa [f] at this)
 refine Cd func343 rfl trivial ?_ rfl;simp only[ntmps343,PL,Nat.reduceAdd,Nat.reduceSub];gi_wp2_with (refine⟨trivial,fun h=>by simp[Fence.wide] at h,?_⟩;refine B.mono ?_;clear B;rintro e w' ⟨rfl,rfl⟩)
 gi_loopw [3,6] (fun _ i wr=>∃ (k:Nat) (o:List PRnd),k<=m/\i=.int .i64 (k:Nat)/\J o wr/\Hid (o.length=k)/\Xi base p m F wr/\Boxed wr bc 295 (.pointer (some p)))
  (fun _ i _=>m-(intOf i).toNat)
 case atStart=>exact⟨0,[],AP _,rfl,y,rfl,b,a⟩
 clear b a y A;obtain⟨k,o,V,rfl,C,r,b,a⟩:=hrel;have A:=a.cell;by_cases X:k<m
 . have Y:((k:Nat):Int)<(m:Nat):=Z
   obtain⟨ls,ds,q,d⟩:=b;have s:=d;obtain⟨L,U,d⟩:=d;obtain⟨g,c,u,uc,rfl,rfl,_⟩:=d.forms;have D:=d.cells.1;obtain⟨z,t⟩:∃ z,ls[k]? = some z:=⟨_,AC Z⟩;have N:cl wr (aq g k) (ii z):=YI d.rl (by simp[KW,i64,t]);obtain⟨fn,a0,a1,a2,E,G⟩:=K o (k,z) wr C ⟨(ZA r).symm,ls,ds,q,s,t⟩;dsimp only[YY] at E;have H:Hid (Xi base p m F wr):=ZB ⟨ls,ds,q,s⟩;rw[q] at D;have a3:=ZB q;clear t q d s
   gi_wp2
   refine⟨fun h=>by simp[Fence.wide] at h,G.mono ?_⟩;rintro e a4 ⟨rfl,O,P,I⟩;have Q:=I (ZA H);clear E G D N H I
   gi_wp2
   go_roundw;case rel=>exact⟨k+1,_,Z,by go_num,O,by show _=_;rw[AE,ZA r];rfl,Q,P a⟩
   case measure=>simp[intOf];omega
 obtain rfl:k=m:=Z
 gi_wp2
 go_end0
 exact⟨⟨_,rfl⟩,o,ZA r,C⟩
end
section
open Go.RowKit Go.Shelf
attribute [local go_sem] AW
def KeepC (K:List Nat) (W W':World):Prop:=W.heap.size<=W'.heap.size/\∀ k o,k∉K->W.heap[k]? = some o->o.isCells=true->W'.heap[k]? = some o
namespace KeepC
variable {K:List Nat} {A B C:World}
theorem trans (h:KeepC K A B) (k:KeepC K B C):KeepC K A C:=⟨AB h.1 k.1,fun i o hi b a=>k.2 i o hi (h.2 i o hi b a) a⟩
theorem putObj (W:World) {l:Nat} {o:Obj} (c:Obj) (d:W.heap[l]? = some o) (e:o.isCells=false):KeepC K W (W.putObj l c):=
 ⟨by rw[World.putObj_size];exact AG _,fun i q _ a b=>(World.putObj_heap_other (by rintro rfl;rw[d] at a;cases a;rw[e] at b;cases b)).trans a⟩
theorem ofKeep {l:List Nat} (h:Keep l A B) (b:∀ x∈l,x∈K):KeepC K A B:=⟨h.size,fun i o hi a _=>(h.block i (AR.1 a).1 (fun c=>hi (b i c))).trans a⟩
theorem box (h:KeepC K A B) (a:Boxed A b t v) (c:b∉K):Boxed B b t v:=h.2 b _ c a rfl
theorem blk {cs:Array Value} (h:KeepC K A B) (a:Blk A b t cs) (c:b∉K):Blk B b t cs:=h.2 b _ c a rfl
theorem own {xs:List Value} (h:KeepC K A B) (a:A.ownsRow base e s v n xs) (b:∀ g∈v.ownBlock.toList,g∉K):B.ownsRow base e s v n xs:=by
 refine⟨a.1,?_⟩;rcases a.2 with a | ⟨g,cap,c,rfl,d,f,r⟩
 . exact .inl a
 exact .inr ⟨g,cap,c,rfl,d,h.2 g _ (b g (by simp[Value.ownBlock])) f rfl,r⟩
theorem paged (h:KeepC K A B) (a:PagedIs A base p L U F l ds) (c:∀ g∈F,g∉K):PagedIs B base p L U F l ds:=by
 have b:=a.foot;exact⟨h.blk a.blk (c p (by simp[b])),h.own a.rl (fun g d=>c g (by rw[b];simp only[AL,AD];exact .inr (.inl d))),h.own a.rd (fun g d=>c g (by rw[b];simp only[AL,AD];exact .inr (.inr d))),b,a.base,a.pos,a.few,a.pages⟩
theorem image {I:PImage} (h:KeepC K A B) (a:ImageIs A base m p1 p2 F F1 F2 I) (b:∀ g∈F,g∉K):ImageIs B base m p1 p2 F F1 F2 I:=by
 obtain⟨d,e,f⟩:=a.b;obtain⟨i,j,k⟩:=a.o;exact⟨h.blk a.blk (b m (by rw[a.foot];simp)),⟨d,e,h.paged f (fun g c=>b g (a.subB g c))⟩,⟨i,j,h.paged k (fun g c=>b g (a.subO g c))⟩,a.apart,a.m1,a.m2,a.foot,a.base,a.ok⟩
end KeepC
theorem ImageIs.putObjR {I:PImage} {o:Obj} (h:ImageIs W base m p1 p2 F F1 F2 I) (a:Obj) (b:W.heap[k]? = some o) (c:o.isCells=false):ImageIs (W.putObj k a) base m p1 p2 F F1 F2 I:=
 (KeepC.putObj (K:=[]) W a b c).image h sq
theorem JW {l l':Nat} {f:FuncId} {a:Array Value} {b d:Code} {R:Ending->World->Prop} (h:RoundIn Fence.wide n P l f a b d w R):RoundIn (Fence.wide.inRound l') m P l f a b d w R:=
 ⟨h.1,fun c cs _=>h.2 c cs (room_wide _)⟩
theorem PagedIs.unique_of {b c:Value} (h:PagedIs W base p L U F l ds) (a:PagedIs W base p b c F' l' ds'):l=l':=by
 have e:=h.blk.symm.trans a.blk;simp at e;obtain⟨rfl,rfl⟩:=e;have d:F=F':=h.foot.trans a.foot.symm;subst d;exact h.unique a
def KeepR (K:List Nat) (N:Nat) (A B:World):Prop:=KeepC K A B/\KeepsFrom N A B
theorem KeepR.trans {K:List Nat} {A B C:World} (h:KeepR K N A B) (k:KeepR K N B C):KeepR K N A C:=⟨h.1.trans k.1,AB h.2.size k.2.size,fun i o hi b a=>k.2.same i o hi (h.2.same i o hi b a) a⟩
theorem KeepR.putObj {K:List Nat} {l:Nat} {o a:Obj} (e:l<N) (b:W.heap[l]? = some o) (c:o.isCells=false):KeepR K N W (W.putObj l a):=
 ⟨KeepC.putObj W a b c,by rw[World.putObj_size];exact AG _,fun i q hi d _=>(World.putObj_heap_other Z).trans d⟩
def YW (bl ol:List Int):Nat->List PRnd
 | 0=>[]
 | k+1=>YW bl ol k++((if 0<bl.getD k 0 then [(k,bl.getD k 0)] else [])++(if 0<ol.getD k 0 then [(k,ol.getD k 0)] else []))
theorem VBY (n:Nat) (v:Value) (w:World) (a:v.oneCell'=true) :
 CallsIn Fence.wide n prog 102 #[v] w fun e w'=>e=.returned (.func (.func 234) #[] #[pq w.heap.size])/\w'=w.alloc (.cells #[v] 128):=by
 refine(AQ (n:=n)).2 ?_;go_enter func102,ntmps102
 go_wp2
 go_ret;exact⟨rfl,rfl⟩
structure KRef (N bm b2 base m p1 p2 l:Nat) (F F1 F2:List Nat) (I:PImage) (J:List PRnd->World->Prop) (pre:List PRnd) (V:World):Prop where
 out:J (YW I.bl I.ol pre.length) V
 img:ImageIs V base m p1 p2 F F1 F2 I
 bm:Boxed V bm 128 (.pointer (some m))
 b2:Boxed V b2 83 (.func (.yield l) #[] #[])
 vals:pre.map (·.2)=I.bl.take pre.length
 size:N<=V.heap.size
theorem KRef.kept {l:Nat} {I:PImage} {J:List PRnd->World->Prop} {b:List PRnd} {A B:World} (h:KRef N bm b2 base m p1 p2 l F F1 F2 I J b A) (c:∀ s A B,J s A->kz A B->J s B) (a:kz A B):KRef N bm b2 base m p1 p2 l F F1 F2 I J b B:=
 ⟨c _ _ _ h.out a,h.img.kO a,JA h.bm a sq,JA h.b2 a sq,h.vals,AB h.size a.size⟩
theorem KRef.turned {B l:Nat} {I:PImage} {J:List PRnd->World->Prop} {d:List PRnd} {V:World} {o a:Obj} (h:KRef N bm b2 base m p1 p2 l F F1 F2 I J d V) (e:∀ s,Kn B (J s)) (f:B<=k) (b:V.heap[k]? = some o) (c:o.isCells=false):KRef N bm b2 base m p1 p2 l F F1 F2 I J d (V.putObj k a):=
 ⟨e _ _ _ _ _ h.out f b c,h.img.putObjR a b c,ZC a h.bm b c,ZC a h.b2 b c,h.vals,by rw[World.putObj_size];exact h.size⟩
def YBn (I:PImage) (x:PRnd):Prop:=0<x.2/\(I.bl.getD x.1 0=x.2\/I.ol.getD x.1 0=x.2)
theorem ZAi (n:Nat) (K:List Nat) {I:PImage} (h:ImageAt w base m F I) (H:Boxed w bm 128 (.pointer (some m))) (ae:∀ g∈F,g∉K) (av:bm∉K) (a5:∀ g∈K,g<w.heap.size) :
 QBo n prog 234 #[pq bm] YY (fun _ x _=>YBn I x) (KeepR K (w.heap.size+2)) (fun xs=>xs=YW I.bl I.ol I.bl.length) w:=by
 obtain⟨p1,p2,F1,F2,h⟩:=h;intro l a0 W a6 bi af ag a1 h0;have bj:=a6.size;replace h:=h.kO a6;replace H:Boxed W bm 128 (.pointer (some m)):=(a6.block bm H.lt sq).trans H;refine callsIn_of_wp_marks func234 rfl trivial ?_ rfl;simp only[ntmps234,PL,Nat.reduceAdd,Nat.reduceSub];have a2:=H.cell;have bk:=H.lt;have aw:=fun W' (d:kz W W')=>AQ (n:=n-1).2 (YR W' base m p1 p2 F F1 F2 I (h.kO d) false)
 gi_wp2_with (first
  | (refine⟨trivial,fun h=>by simp[Fence.wide] at h,?_⟩;refine(aw _ (kq.alloc _)).mono ?_;rintro e w' ⟨rfl,rfl⟩)
  | (refine⟨trivial,fun h=>by simp[Fence.wide] at h,?_⟩;refine(KAU _ _ _ rfl).mono ?_;rintro e w' ⟨rfl,rfl⟩))
 obtain⟨w1,J⟩:=ex (W.alloc (.cells #[.func (.yield l) #[] #[]] 83));obtain⟨c,M⟩:=ex (w1.alloc (.cells #[pq p1] 295));rw[<- J,<- M];have s1:w1.heap.size=W.heap.size+1:=by rw[J,AM]
 have s2:c.heap.size=W.heap.size+2:=by rw[M,AM,s1]
 have k1:kz W w1:=by rw[J];exact kq.alloc _
 have k2:kz w1 c:=by rw[M];exact kq.alloc _
 have N:kz W c:=k1.tO k2;have b2:Boxed c W.heap.size 83 (.func (.yield l) #[] #[]):=JA (by rw[J];exact Boxed.new W _ _) k2 sq;have bc:Boxed c (W.heap.size+1) 295 (.pointer (some p1)):=by rw[M,<- s1];exact Boxed.new w1 _ _
 have a7:KRef c.heap.size bm W.heap.size base m p1 p2 l F F1 F2 I a0 [] c:=⟨af _ _ _ h0 N,h.kO N,JA H N sq,b2,rfl,AG _⟩;obtain⟨L,U,ax⟩:=h.b;have bl:=h.lt;have a8:=JAO (n-1) (base:=base) (p:=p1) (m:=I.bl.length) (L:=L) (U:=U) (F:=F1) (w:=c) ⟨I.bl,I.bd,rfl,ax.kO N⟩ bc
 refine ZU (n:=n) (gf:=343) (lb:=#[pq (W.heap.size+1)]) rfl (enters_of func343 (by kernel_rfl) rfl)
  a8
  (fun A B C h k=>⟨fun E=>k.1 (h.1 E),fun E=>k.2 (h.2 E)⟩)
  (fun W l o R hl O j=>⟨fun E=>ZC R E O j,fun⟨ls,ds,P,G⟩=>⟨ls,ds,P,G.putObj R O j⟩⟩)
  (fun _=>rfl) (KRef c.heap.size bm W.heap.size base m p1 p2 l F F1 F2 I a0) (fun s A B h d=>h.kept af d) (fun s V l o R h hl O j=>h.turned ag Z O j)
  (fun q x W l o R h hl O j=>⟨h.1,by obtain⟨ls,ds,P,G,b⟩:=h.2;exact⟨ls,ds,P,G.putObj R O j,b⟩⟩) a7
  (fun x=>{ tmps:=#[.func (.yield l) #[] #[],pq bm,pq W.heap.size,.int .i64 (x.1:Nat),.int .i64 x.2,undef,undef,pq m,pq p1,
    .func (.func 343) #[] #[.pointer (some ⟨W.heap.size+1,0,none⟩)],.int .i64 (x.1:Nat),.int .i64 x.2,undef,undef,undef,undef,undef,undef,undef,undef,undef,undef,undef,undef,undef,undef,undef,undef,undef,undef,undef,undef,undef,undef,undef,undef,undef,undef,undef,undef,undef],defers:=[] }) ?assign ?body ?done
 case assign=>
  rintro l' ⟨k,z⟩ V bn ah;dsimp only[YY] at ah ⊢
  gi_wp2
  exact ah
 case body=>
  rintro l' q ⟨k,z⟩ V a ⟨d,ls,ds,P,G,b⟩;dsimp only at d b ⊢;obtain⟨bo,bp,bq⟩:=a.img.b
  have a9:k<I.ol.length:=by
   have:=(BS.1 b).1;rw[<- a.img.ok.1];omega
  have r:=AQ (n:=n-1-1-1).2 (Jk V base p2 F2 I.ol I.od a.img.o k a9);have a2:=a.bm.cell;have aa:=a.b2.cell;have ab:=a.img.cells.2
  have ai:I.bl.getD k 0=z:=by
   obtain⟨ay,az,ac⟩:=a.img.b;have aj:=b;rw[G.unique_of ac] at aj;rw[AA,aj];rfl
  have ak:=ZB ai;clear ai;obtain⟨y,hy⟩:=ex (I.ol[k]);rw[<- hy] at r;have b0:=ZB hy;have al:Hid (I.ol.getD k 0=y):=ZB (by rw[Ze a9,hy]);have t:=ZB a;have b1:=ZB d;have b3:=ZB b;have br:=ZB P;have b4:=ZB G;clear a7 b2 bc N k1 k2 J M a8 a b hy h0 d P G;have a:=ZA t
  have am:∀ ys a3,a0 (YW I.bl I.ol q.length++ys) a3->KeepR K (w.heap.size+2) V a3->ys=((if 0<z then [(k,z)] else [])++(if 0<y then [(k,y)] else [])) ->
   VAb c.heap.size (YBU base p1 I.bl.length (W.heap.size+1) L U F1) (KRef c.heap.size bm W.heap.size base m p1 p2 l F F1 F2 I a0 (q++[(k,z)])) V .normal { tmps:=#[],defers:=[] } a3:=fun ys a3 b5 u b6=>by
   have d:=ZA b1;have b:=ZA b3
   have b7:ls=I.bl:=by
    obtain⟨ay,az,ac⟩:=a.img.b;exact(ZA b4).unique_of ac
   rw[b7] at b;have an:=(BS.1 b).1;have b8:I.bl.getD k 0=z:=by rw[AA,b];rfl
   have b9:I.ol.getD k 0=y:=by rw[Ze a9,ZA b0]
   have ad:W.heap.size∉K:=fun S=>by have:=a5 _ S;omega
   have ba:W.heap.size+1∉K:=fun S=>by have:=a5 _ S;omega
   refine⟨⟨u.2.size,fun i o hi j hc=>u.2.same i o Z j hc⟩,⟨fun E=>u.1.box E ba,fun⟨ls',ds',r1,r2⟩=>⟨ls',ds',r1,u.1.paged r2 (fun g hg=>ae g (h.subB g hg))⟩⟩,⟨?_,u.1.image a.img ae,u.1.box a.bm av,u.1.box a.b2 ad,?_,AB a.size u.1.1⟩⟩
   . have e:YW I.bl I.ol (q.length+1)=YW I.bl I.ol q.length++ys:=by rw[b6,YW,<- d,b8,b9]
     rw[AE,Af,e];exact b5
   rw[Bf,a.vals,AE,Af,<- d,AO an]
   rw[AC an] at b;rw[show I.bl[k]=z from uq b];rfl
  have a4:=ZB am;clear am a;have ad:W.heap.size∉K:=fun S=>by have:=a5 _ S;omega
  by_cases hz:0<z
  . by_cases T:0<y
    . obtain⟨fn,ao,assign,body,v,D⟩:=a1 (YW I.bl I.ol q.length) (k,z) V (ZA t).out ⟨hz,.inl (ZA ak)⟩
      dsimp only[YY] at v;gi_wp2_with (refine⟨trivial,fun h=>by simp[Fence.wide] at h,?_⟩;refine r.mono ?_;clear r;rintro e w' ⟨rfl,rfl⟩);refine⟨fun h=>by simp[Fence.wide] at h,(JW D).mono ?_⟩;rintro e X ⟨rfl,Y,Q⟩;obtain⟨bs,bt,bu,bv,ap,ar⟩:=a1 (YW I.bl I.ol q.length++[(k,z)]) (k,y) X Y ⟨T,.inr (ZA al)⟩;dsimp only[YY] at ap;have bb:=Q.1.box (ZA t).b2 ad;have bw:=bb.cell;clear v D a2 aa ab
      gi_wp2
      refine⟨fun h=>by simp[Fence.wide] at h,(JW ar).mono ?_⟩;rintro e bd ⟨rfl,bf,bg⟩;clear ap ar
      gi_wp2
      exact ZA a4 ([(k,z)]++[(k,y)]) bd (by rw[<- BN];exact bf) (Q.trans bg) (by rw[AJ hz,AJ T])
    obtain⟨fn,ao,assign,body,v,D⟩:=a1 (YW I.bl I.ol q.length) (k,z) V (ZA t).out ⟨hz,.inl (ZA ak)⟩
    dsimp only[YY] at v;gi_wp2_with (refine⟨trivial,fun h=>by simp[Fence.wide] at h,?_⟩;refine r.mono ?_;clear r;rintro e w' ⟨rfl,rfl⟩);refine⟨fun h=>by simp[Fence.wide] at h,(JW D).mono ?_⟩;rintro e X ⟨rfl,Y,Q⟩;clear v D a2 aa ab
    gi_wp2
    refine⟨fun f h=>(by cases h),?_⟩
    gi_wp2
    exact ZA a4 [(k,z)] X Y Q (by rw[AJ hz,AF Z];rfl)
  by_cases T:0<y
  . obtain⟨fn,ao,assign,body,v,D⟩:=a1 (YW I.bl I.ol q.length) (k,y) V (ZA t).out ⟨T,.inr (ZA al)⟩
    dsimp only[YY] at v;gi_wp2_with (refine⟨trivial,fun h=>by simp[Fence.wide] at h,?_⟩;refine r.mono ?_;clear r;rintro e w' ⟨rfl,rfl⟩);refine⟨fun f h=>(by cases h),?_⟩
    gi_wp2
    refine⟨fun h=>by simp[Fence.wide] at h,(JW D).mono ?_⟩;rintro e X ⟨rfl,Y,Q⟩;clear v D a2 aa ab
    gi_wp2
    exact ZA a4 [(k,y)] X Y Q (by rw[AF Z,AJ T];rfl)
  gi_wp2_with (refine⟨trivial,fun h=>by simp[Fence.wide] at h,?_⟩;refine r.mono ?_;clear r;rintro e w' ⟨rfl,rfl⟩)
  refine⟨fun f h=>(by cases h),?_⟩
  gi_wp2
  rw[<- s2];exact ZA a4 [] V (by rw[Bg];exact(ZA t).out) ⟨KeepC.ofKeep (Keep.refl [] V) sq,AG _,fun i o _ j _=>j⟩ (by rw[AF Z,AF Z];rfl)
 case done=>
  intro D' xs V bx bh a au;have t:=ZB a;clear a7 b2 bc N k1 k2 J M a8 a h0
  gi_wp2
  have a:=ZA t;refine⟨sq,.inl ⟨_,_,rfl,run_takeDeferred au,?_⟩⟩;refine⟨.tuple #[],?_,⟨_,rfl⟩,_,rfl,?_⟩
  . simp[results,results234,go_sem]
  have:=ag _ _ _ _ (.deferred none) a.out Z au rfl
  rwa [bh] at this
theorem VAt (n:Nat) (K:List Nat) {I:PImage} (h:ImageAt w base m F I) (a:Boxed w bm 128 (.pointer (some m))) (b:∀ g∈F,g∉K) (c:bm∉K) (d:∀ g∈K,g<w.heap.size) :
 QBo n prog 234 #[pq bm] YY (fun _ _ _=>True) (KeepR K (w.heap.size+2)) (fun xs=>xs=YW I.bl I.ol I.bl.length) w:=
 fun l J W e f i j k o=>ZAi n K h a b c d l J W e f i j (fun p x q r _=>k p x q r trivial) o