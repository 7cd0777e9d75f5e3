/- Lemmas of the proof, with their conditions. -/
import Derived.Test.YtfedaknhecbehaaGreatM02
namespace Go.Proofs.YtfedaknhecbehaaGreat
open Tryz Go.RowKit
variable {K:Act->World->Prop} {Q:Exit->Act->World->Prop} {ops:Array Oper} {rest:List Oper} {A:Option Addr} {b:Nat} {qs:Array (Nat×Value)}
set_option linter.all false
set_option maxHeartbeats 2000000
set_option maxRecDepth 20000
structure ElemN (P:Program) (t e:TypeId) (z:Value) (s bytes:Nat):Prop where
 und:P.underlying t=some (.slice e)
 info:∃ i,P.info? e=some i/\i.zero=some z/\i.size=s/\i.bytes=bytes
 cells:z.cells.size=s
 pos:0<s
theorem ElemN.of {P:Program} {t e:TypeId} {z:Value} {s bytes:Nat} (a:P.underlying t=some (.slice e)) (h:(P.info? e).map (fun i=>(i.zero,i.size,i.bytes))=some (some z,s,bytes)) (b:z.cells.size=s) (c:0<s):ElemN P t e z s bytes:=by
 obtain⟨i,d,f,g,j⟩:=info_parts h;exact⟨a,⟨i,d,f,g,j⟩,b,c⟩
section
variable {P:Program} {t e:TypeId} {z:Value} {s bytes:Nat}
theorem ElemN.run_app (E:ElemN P t e z s bytes) (w:World) (base:Nat) (k:TypeId) (v:Value) (n:Nat) (xs:List Value) (p:w.ownsRow base e s v n xs)
 (f:Addr) (m c:Nat) (d:List Value) (g:Rd w (some f) (m*s) d) (h:∀ u∈d,u.oneCell'=true)
 (q:n+m<=9223372036854775807) (r:(n+m)*bytes<=140737488355328) (y:base<=w.heap.size) :
 ∃ a w',(Builtin.append_ #[t,t] k #[v,.slice (some f) m c]).run P w=.ok a w'/\w'.ownsRow base e s a (n+m) (xs++d)/\Keep v.ownBlock.toList w w' /\
   (a.ownBlock=v.ownBlock\/a.ownBlock=some w.heap.size)/\(a=.slice none 0 0↔v=.slice none 0 0/\m=0):=by
 obtain⟨i,hi,A,B,C⟩:=E.info
 obtain⟨a,w',h,D,F,G,H⟩:=Du (P:=P) w base t k e i z s bytes E.und hi A B C E.cells E.pos v n xs p f m c d g.1 (fun j u l=>by
  have K:j<d.length:=(BS.1 l).1;obtain⟨b,o,I,_,J⟩:=g.2 (by rw[<- g.1];omega);cases I;rw[Bw];exact J j u l) h (by simpa [maxLen] using q) r y
 exact⟨a,w',h,D,Keep.ofGrown F,H,G⟩
theorem ElemN.wp1_app (E:ElemN P t e z s bytes) {w:World} {o:Oper} {a:Act} (g x:Operand)
 (i:o.op=.call { callee:=.builtin .append,args:=#[g,x],argTypes:=#[t,t] })
 (base:Nat) (v:Value) (n:Nat) (xs:List Value) (j:a.eval g=v) (k:w.ownsRow base e s v n xs)
 (f:Addr) (m c:Nat) (d:List Value) (l:a.eval x=.slice (some f) m c) (p:Rd w (some f) (m*s) d) (q:∀ u∈d,u.oneCell'=true)
 (r:n+m<=9223372036854775807) (y:(n+m)*bytes<=140737488355328) (A:base<=w.heap.size)
 (h:∀ b w',w'.ownsRow base e s b (n+m) (xs++d)->Keep v.ownBlock.toList w w'->(b.ownBlock=v.ownBlock\/b.ownBlock=some w.heap.size)->(b=.slice none 0 0↔v=.slice none 0 0/\m=0)->K (a.put o.dst b) w'):o.wp P a w K Q:=by
 obtain⟨b,w',B,C,D,F,G⟩:=E.run_app w base o.type v n xs k f m c d p q r y A;unfold Oper.wp execOp;simp only[i,resolve,invoke,builtin,B8,B7,BV,Co,CN,Cx,j,l,B];exact h b w' C D F G
theorem ElemN.wp_app (E:ElemN P t e z s bytes) {w:World} {o:Oper} {a:Act} (i:o.guard=none) (f x:Operand)
 (j:o.op=.call { callee:=.builtin .append,args:=#[f,x],argTypes:=#[t,t] })
 (base:Nat) (v:Value) (n:Nat) (xs:List Value) (k:a.eval f=v) (l:w.ownsRow base e s v n xs)
 (g:Addr) (m c:Nat) (d:List Value) (p:a.eval x=.slice (some g) m c) (q:Rd w (some g) (m*s) d) (r:∀ u∈d,u.oneCell'=true)
 (y:n+m<=9223372036854775807) (A:(n+m)*bytes<=140737488355328) (B:base<=w.heap.size)
 (h:∀ b w',w'.ownsRow base e s b (n+m) (xs++d)->Keep v.ownBlock.toList w w'->(b.ownBlock=v.ownBlock\/b.ownBlock=some w.heap.size)->(b=.slice none 0 0↔v=.slice none 0 0/\m=0)->wpList P ops Q rest (a.put o.dst b) w'):wpList P ops Q (o :: rest) a w:=
 B5 i fun _ C=>E.wp1_app f x j base v n xs k l g m c d p q r y A B fun b w' D F G H=>C _ _ (h b w' D F G H)
end
theorem Rd.of_ownN {w:World} {n c s base:Nat} {e:TypeId} {xs:List Value} (h:w.ownsRow base e s (.slice A n c) n xs):Rd w A (n*s) xs:=by
 refine⟨h.1,fun f=>?_⟩;rcases h.2 with⟨b,i⟩ | ⟨g,cap,l,b,m,d,o,p,q,k⟩
 . subst i;simp at f
 injection b with hA
 subst hA;refine⟨g,0,rfl,Blk.lt (t:=e) d,fun j u a=>?_⟩;rw[BB,Blk.cell (t:=e) d];rw[<- k,Bb] at a
 split at a
 . simpa using a
 cases a
theorem VAz {w:World} {base n:Nat} {v:Value} {e:TypeId} {xs:List Value} (h:w.ownsRow base e 1 v n xs):v.oneCell'=true:=by
 obtain⟨A,c,rfl,_⟩:=XB h;rfl
/-! ### make -/
theorem XT (z:Value) (s m:Nat) (a:0<s):madeCells (Array.replicate s z) m=Array.replicate m z:=by
 apply Array.ext
 . simp[De]
 intro i b c
 have:i % s<s:=Bk _ a;simp[madeCells,this]
section
variable {P:Program} {t e:TypeId} {z:Value} {s bytes:Nat}
theorem ElemN.run_make (E:ElemN P t e z s bytes) (a b:IntKind) (n:Nat) (j:bytes*n<=281474976710656) (k:n<=9223372036854775807) (w:World) :
 (Instr.makeSlice t (.int a (n:Int)) (.int b (n:Int))).run P w=.ok (.slice (some w.heap.size) n n) (w.alloc (.cells (madeCells z.cells (n*s)) e)):=by
 obtain⟨i,hi,d,f,rfl⟩:=E.info
 have g:(i.bytes:Int)*(n:Int)<=281474976710656:=by
  have h:((i.bytes*n:Nat):Int)<=281474976710656:=Z
  rwa [CP] at h
 have c:=Go.run_make (P:=P) w t e i z E.und hi d a b n n Z Z g Z;simp only[Ba,f] at c;exact c
theorem ElemN.wp1_make (E:ElemN P t e z s bytes) {w:World} {o:Oper} {a:Act}
 (l c:Operand) (f:o.op=Op.makeSlice t l c) (b d:IntKind) (n:Nat) (i:a.eval l=.int b n) (j:a.eval c=.int d n) (k:bytes*n<=281474976710656) (m:n<=9223372036854775807)
 (h:∀ w' g,g=w.heap.size->w'.heap.size=g+1->Blk w' g e (madeCells z.cells (n*s))->kz w w'->K (a.put o.dst (.slice (some (aq g 0)) n n)) w'):o.wp P a w K Q:=by
 have p:=E.run_make b d n k m w;unfold Oper.wp;simp[execOp,f,i,j,p,Result.andThen];exact h _ _ rfl sq (Blk.new _ _ _) (kq.alloc _)
end
/-! ### An element's cells -/
section
variable {w:World} {base g n c s i:Nat} {e:TypeId} {xs:List Value}
theorem VAQ (h:w.ownsRow base e s (.slice (some g) n c) n xs) (hi:i<n):w.rangeAt g (i*s) (seg s xs i):=by
 have d:(i+1)*s<=n*s:=BJ _ hi;rw[Cc,Nat.one_mul] at d;rcases h.2 with⟨b,_⟩ | ⟨m,cap,o,b,p,f,q,r,u,k⟩
 . cases b
 cases b
 intro j v a
 have l:j<s:=by
  have:=(BS.1 a).1;simp[seg] at this;omega
 rw[seg_get _ _ _ _ l,<- k,Bb] at a;rw[Blk.cell (t:=e) f]
 split at a
 . simpa using a
 cases a
theorem XAQ (h:w.ownsRow base e s (.slice (some g) n c) n xs) (hi:i<n):w.there g (i*s) s:=by
 have d:(i+1)*s<=n*s:=BJ _ hi;rw[Cc,Nat.one_mul] at d;rcases h.2 with⟨a,_⟩ | ⟨k,cap,l,a,m,b,f,o,p,q⟩
 . cases a
 cases a
 have r:n*s<=c*s:=BJ _ f;intro j u;rw[Blk.cell (t:=e) b];refine⟨?_,Blk.frozen (t:=e) b _⟩;rw[Array.getElem?_eq_getElem Z];rfl
theorem KAz {α:Type} (bs:List α) (a:Nat) (b:List α) (k:Nat) (d:a<=bs.length) (h:a+b.length<=k):(laid bs a b).take k=laid (bs.take k) a b:=by
 have c:(bs.take a++b).length=a+b.length:=by simp;omega
 unfold laid;rw[DO,AK (l:=bs.take a++b) Z,c,List.drop_take,List.take_take,CO Z]
theorem ZAR {α:Type} (bs:List α) (a:Nat) (x:α) (b:List α) (h:a<bs.length):laid (bs.set a x) (a+1) b=laid bs a (x :: b):=by
 unfold laid;rw[DE,AJ h];have c:(bs.take a).length=a:=by simp;omega
 rw[DO,CH,c];have d:(bs.take a).take (a+1)=bs.take a:=AK Z;have e:(bs.take a).drop (a+1+b.length)=[]:=BL Z;rw[d,e,show a+1-a=1 from Z,show a+1+b.length-a=b.length+1 from Z,DH,List.drop_drop];simp
 congr 1
 omega
theorem Blk.setCells {t:TypeId} (ys:List Value):∀ {w:World} {cs:Array Value} (o:Nat),Blk w g t cs->o+ys.length<=cs.size->Blk (w.setCells g o ys) g t (laid cs.toList o ys).toArray:=by
 induction ys with
 | nil=>intro w cs o h _;rw[laid_nil];exact h
 | cons y ys ih=>
   intro w cs o h a;rw[World.setCells];have b:=ih (o+1) (h.set o y) (by simp at a ⊢;omega);rw[CU,ZAR _ _ _ _ (by simp at a ⊢;omega)] at b;exact b
theorem Keep.setCells {l:List Nat} (ys:List Value):∀ {w w':World} (o:Nat),Keep l w w'->g∈l\/w.heap.size<=g->Keep l w (w'.setCells g o ys):=by
 induction ys with
 | nil=>intro w w' o h _;exact h
 | cons y ys ih=>
   intro w w' o h a;rw[World.setCells];exact ih (o+1) (h.setCell (p:=⟨g,o,none⟩) a y) a
theorem JAD (h:w.ownsRow base e s (.slice (some g) n c) n xs) (hi:i<n) {ys:List Value} (r:ys.length=s) :
 (w.setCells g (i*s) ys).ownsRow base e s (.slice (some g) n c) n (laid xs (i*s) ys):=by
 have f:(i+1)*s<=n*s:=BJ _ hi;rw[Cc,Nat.one_mul] at f;have j:=h.1;rcases h.2 with⟨a,_⟩ | ⟨u,cap,b,a,k,l,d,m,o,p⟩
 . cases a
 cases a
 have v:n*s<=c*s:=BJ _ d;have q:=Blk.setCells (t:=e) (cs:=b) ys (i*s) l Z;refine⟨by rw[QG _ _ _ Z];exact j,.inr ⟨g,c,_,rfl,k,q,d,m,?_,?_⟩⟩
 . simp[QG b.toList (i*s) ys (by simp;omega),o]
 rw[<- p,List.toList_toArray]
 exact KAz _ _ _ _ (by simp;omega) Z
end
theorem Qi {w:World} {base n s:Nat} {v:Value} {e:TypeId} {xs:List Value} (h:w.ownsRow base e s v n xs):∀ x∈v.ownBlock.toList,x<w.heap.size:=fun x a=>(own_mem h a).2
theorem QAF (s:Nat) (xs:List UInt8) (i:Nat):seg s (bys xs) i=bys (seg s xs i):=by simp[seg,Xl,ZV]
/-! ### build,at parts of many cells -/
theorem YBE (a:List Value):∀ (b:Array Value) (c k:Nat),c+k+a.length<=b.size ->
 (a.zipIdx k).foldl (fun cs p=>cs.setIfInBounds (c+p.2) p.1) b=(laid b.toList (c+k) a).toArray:=by
 induction a with
 | nil=>intro b c k _;simp
 | cons v a ih=>
   intro b c k h;simp only[Ao] at h;rw[List.zipIdx_cons,List.foldl_cons,ih _ _ _ (by simp;omega),CU,<- ZAR _ _ _ _ (by simp;omega)];rfl
theorem Qw (c:Nat->Option (Nat×Nat)) (a:Array Value) (i b d:Nat) (v:Value) (rest:List (Nat×Value)) (f:c i=some (b,d)) (e:v.cells.size=d) (g:b+d<=a.size) :
 Instr.fill c a ((i,v) :: rest)=Instr.fill c (laid a.toList b v.cells.toList).toArray rest:=by
 have h:=YBE v.cells.toList a b 0 (by simp;omega);simp only[BK] at h;rw[Instr.fill,f];simp only;rw[AF (fun q=>by rw[C1,AY,AY] at q;exact q.elim (fun q=>q e) (fun q=>by rw[e] at q;omega)),<- h,<- Array.foldl_toList,Array.toList_zipIdx]
theorem QAR {P:Program} {t:TypeId} {b:Array Field} (c:List (Nat×Nat)) (z:Value) (e:P.underlying t=some (.struct b)) (a:(P.info? t).map (·.zero)=some (some z))
 (g:b.toList.mapM (fun f=>(P.info? f.type).map fun i=>(f.offset,i.size))=some c) (d:List (Nat×Value)):P.built t d=Instr.fill (c.toArray[·]?) z.cells d:=by
 obtain⟨it,h,a⟩:∃ it,P.info? t=some it/\it.zero=some z:=by
  cases hi:P.info? t with
  | none=>rw[hi] at a;cases a
  | some it=>rw[hi] at a;exact⟨it,rfl,uq a⟩
 unfold Program.built;simp only[h,e,a,g]
theorem YD {w:World} {base n s:Nat} {e:TypeId} {v:Value} {xs:List Value} (h:w.ownsRow base e s v n xs) (i:0<n):∃ g c,v=.slice (some (aq g 0)) n c/\n<=c/\c<=9223372036854775807:=by
 rcases h.2 with⟨rfl,j⟩ | ⟨a,cap,k,b,l,m,d,f,o,p⟩
 . omega
 exact⟨a,cap,b,d,by simpa [maxLen] using f⟩
theorem Rd.some64 {w:World} {n:Nat} {xs:List Value} (h:Rd w A n xs) (a:0<n):∃ b o,A=some ⟨b,o,none⟩/\b<w.heap.size/\w.rangeAt b o xs:=by
 obtain⟨b,o,rfl,c,d⟩:=h.2 a;exact⟨b,o,rfl,c,d⟩
theorem Keep.range {l:List Nat} {w w':World} {o:Nat} {xs:List Value} (h:Keep l w w') (a:w.rangeAt b o xs) (c:b<w.heap.size) (d:b∉l):w'.rangeAt b o xs:=fun j v e=>(h.cell c d _).trans (a j v e)
/-! ### Operations by name,in a drawn region -/
section
variable {P:Program} {o:Oper} {a:Act} {w w':World} {v:Value}
theorem Xf (b:TypeId) (x:Operand) (c:o.op=.load b x) (p:Value) (d:a.eval x=p) (h:(Instr.loadAt b p).run P w=.ok v w):(execOp a.eval o).run P w=.ok (.value v) w:=by
 unfold execOp;simp only[c,d,B8,B7,h,BV]
theorem XAn (b:TypeId) (c:Array (Nat×Operand)) (d:o.op=.build b c) (h:(Instr.build b qs).run P w=.ok v w) (e:(c.map fun(i,x)=>(i,a.eval x))=qs):(execOp a.eval o).run P w=.ok (.value v) w:=by
 unfold execOp;simp only[d,e,B8,B7,h,BV]
theorem VAB (b:TypeId) (c:Nat) (d:Array (Nat×Operand)) (e:o.op=.buildSlice b c d)
 (h:(Instr.buildSlice b c qs).run P w=.ok v w') (f:(d.map fun(i,x)=>(i,a.eval x))=qs) (g:K (a.put o.dst v) w'):o.wp P a w K Q:=by
 unfold Oper.wp execOp;simp only[e,f,B8,B7,h,BV];exact g
theorem XAy (b:TypeId) (x y:Operand) (c:o.op=.store b x y) (p u:Value) (d:a.eval x=p) (e:a.eval y=u)
 (h:(Instr.storeAt b p u).run P w=.ok () w') (f:K (a.put o.dst undef) w'):o.wp P a w K Q:=by
 unfold Oper.wp execOp;simp only[c,d,e,B8,B7,h,BV];exact f
theorem Va (c:o.guard=none) (b:TypeId) (x y:Operand) (d:o.op=.store b x y) (p u:Value) (e:a.eval x=p) (f:a.eval y=u)
 (h:(Instr.storeAt b p u).run P w=.ok () w') (g:wpList P ops Q rest (a.put o.dst undef) w'):wpList P ops Q (o :: rest) a w:=
 B5 c fun _ i=>XAy b x y d p u e f h (i _ _ g)
theorem XBO (c:o.guard=none) (b:TypeId) (x:Operand) (d:o.op=.load b x) (p:Value) (e:a.eval x=p)
 (h:(Instr.loadAt b p).run P w=.ok v w) (f:wpList P ops Q rest (a.put o.dst v) w):wpList P ops Q (o :: rest) a w:=
 B5 c fun _ g=>by
  unfold Oper.wp;rw[Xf b x d p e h];exact g _ _ f
theorem Xo (b:TypeId) (x i:Operand) (c:o.op=.indexAddr b x i) (p q:Value) (d:a.eval x=p) (hi:a.eval i=q) (h:(Instr.indexAt b p q).run P w=.ok v w):(execOp a.eval o).run P w=.ok (.value v) w:=by
 unfold execOp;simp only[c,d,hi,B8,B7,h,BV]
theorem Jl (b:o.guard=none) (h:(execOp a.eval o).run P w=.ok (.value v) w) (c:wpList P ops Q rest (a.put o.dst v) w):wpList P ops Q (o :: rest) a w:=
 B5 b fun _ d=>by
  unfold Oper.wp;rw[h];exact d _ _ c
theorem VBB (d:o.guard=none) (b:TypeId) (e:o.op=.alloc b) (z:Value) (c:(P.info? b).map (·.zero)=some (some z))
 (f:wpList P ops Q rest (a.put o.dst (.pointer (some w.heap.size))) (w.alloc (.cells z.cells b))):wpList P ops Q (o :: rest) a w:=by
 refine B5 d fun _ g=>?_
 obtain⟨it,h,c⟩:∃ it,P.info? b=some it/\it.zero=some z:=by
  cases hi:P.info? b with
  | none=>rw[hi] at c;cases c
  | some it=>rw[hi] at c;exact⟨it,rfl,uq c⟩
 have i:(execOp a.eval o).run P w=.ok (.value (.pointer (some w.heap.size))) (w.alloc (.cells z.cells b)):=by
  unfold execOp;simp[e,Instr.alloc,zeroValue,typeInfo,h,c,newVar,newRow]
 unfold Oper.wp;rw[i];exact g _ _ f
theorem KY {g:Nat} {t:TypeId} {cs:Array Value} (h:Blk w g t cs) (n:Nat) (a:n<=cs.size):w.there g 0 n:=fun j b=>by
 rw[BB,h.cell,Array.getElem?_eq_getElem Z];exact⟨rfl,h.frozen _⟩
theorem Blk.all {g:Nat} {t:TypeId} {cs:Array Value} (h:Blk w g t cs) (ys:List Value) (a:ys.length=cs.size):Blk (w.setCells g 0 ys) g t ys.toArray:=by
 have:=h.setCells ys 0 Z
 rwa [Ks _ _ (uq a)] at this
theorem Blk.range {g:Nat} {t:TypeId} {cs:Array Value} (h:Blk w g t cs):w.rangeAt g 0 cs.toList:=fun j v a=>by
 rw[BB,h.cell];simpa using a
theorem ZAu {c:Nat} {xs:List Value} (h:w.rangeAt b c xs) (i n:Nat):w.rangeAt b (c+i) ((xs.drop i).take n):=fun j v a=>by
 rw[Bb] at a
 split at a
 . rw[BT] at a
   rw[BY];exact h _ _ a
 cases a
theorem Zd {t e:TypeId} {s:Nat} (d:P.underlying t=some (.slice e)) (a:(P.info? e).map (·.size)=some s) (g b n c k:Nat) (h:k<n) (W:World) :
 (Instr.indexAt t (.slice (some (aq g b)) n c) (.int .i64 (k:Nat))).run P W=.ok (.pointer (some (aq g (b+k*s)))) W:=by
 have f:(sizeOf e).run P W=.ok s W:=by
  cases hi:P.info? e with
  | none=>rw[hi] at a;cases a
  | some i=>rw[hi] at a;simp only[Az,Ab] at a;simp[sizeOf,typeInfo,hi,a]
 have j:(0:Int)<=(k:Nat)/\((k:Nat):Int)<(n:Nat):=Z
 simp[Instr.indexAt,asIntOf,CE d,f,Bw];omega
end
theorem KE {P:Program} {t:TypeId} {a:Array Field} {f:Field} (b:P.underlying t=some (.struct a)) (k:Nat) (c:a[k]? = some f) (d:∀ w,(isAgg f.type).run P w=.ok false w) (cs:Array Value) {v:Value} (e:cs[f.offset]? = some v) (W:World) :
 (Instr.field t (.agg cs) k).run P W=.ok v W:=by
 simp[Instr.field,CE b,c,part,d,asAgg,e]
section
variable {α:Type} {f:α->List Value} {s:Nat}
theorem Jj (a:∀ x,(f x).length=s) (l:List α):(l.flatMap f).length=l.length*s:=by
 induction l with
 | nil=>simp
 | cons x l ih=>rw[BE,AE,ih,a,Ao,Cf];omega
theorem YAK (a:∀ x,(f x).length=s) (l:List α) (i:Nat):(l.flatMap f).drop (i*s)=(l.drop i).flatMap f:=by
 induction i generalizing l with
 | zero=>simp
 | succ i ih=>
   cases l with
   | nil=>simp
   | cons x l=>rw[BE,DH,<- ih,Cf,CH,BL (by rw[a];omega),a,Am];congr 1;omega
theorem KAt (a:∀ x,(f x).length=s) (l:List α) (i:Nat):(l.flatMap f).take (i*s)=(l.take i).flatMap f:=by
 induction i generalizing l with
 | zero=>simp
 | succ i ih=>
   cases l with
   | nil=>simp
   | cons x l=>rw[BE,List.take_succ_cons,BE,<- ih,Cf,DO,AK (by rw[a];omega),a];congr 2;omega
theorem YN (a:∀ x,(f x).length=s) (l:List α) (i j:Nat) (hi:i<l.length) (b:j<s):(l.flatMap f)[i*s+j]? = (f l[i])[j]? := by
 have c:=YAK a l i;have d:((l.flatMap f).drop (i*s))[j]? = (l.flatMap f)[i*s+j]? := BT;rw[<- d,c,Bt hi,BE,CG (by rw[a];exact b)]
theorem ZBC (a:∀ x,(f x).length=s) (l:List α) (i:Nat) (hi:i<l.length) (y:α):laid (l.flatMap f) (i*s) (f y)=(l.set i y).flatMap f:=by
 unfold laid;rw[a,show i*s+s=(i+1)*s by rw[Cf],YAK a,KAt a,DE,AJ hi];simp
theorem VY (c:∀ x,(f x).length=s) (l:List α) (i j:Nat) (hi:i<l.length) (n:j<s) (u:Value) (y:α) (g:(f l[i]).set j u=f y):(l.flatMap f).set (i*s+j) u=(l.set i y).flatMap f:=by
 rw[<- ZBC c l i hi,<- g];have o:=Jj c l;have h:(i+1)*s<=l.length*s:=BJ _ hi;rw[Cf] at h;have d:=c l[i];apply By;intro k;rw[BW]
 have m:(laid (l.flatMap f) (i*s) ((f l[i]).set j u))[k]? = if k<i*s then (l.flatMap f)[k]? else if k<i*s+s then ((f l[i]).set j u)[k-i*s]? else (l.flatMap f)[k]? := by
  unfold laid;rw[Bl,d,BN];by_cases a:k<i*s
  . rw[CG (by rw[BH];omega),Bb,AJ a,AJ a]
  rw[Bm (by rw[BH];omega),AF a,BH,CO Z]
  by_cases b:k<i*s+s
  . rw[CG (by rw[Bl];omega),AJ b]
  rw[Bm (by rw[Bl];omega),AF b,Bl,d,BT]
  congr 1;omega
 rw[m];by_cases a:i*s+j=k
 . subst a
   rw[AJ rfl,AJ Z,AF Z,AJ Z,show i*s+j-i*s=j from Z,BW,AJ rfl,AJ Z]
 rw[AF a]
 by_cases b:k<i*s
 . rw[AJ b]
 rw[AF b]
 by_cases e:k<i*s+s
 . rw[AJ e,BW,AF Z]
   have:=YN c l i (k-i*s) hi Z;rw[show i*s+(k-i*s)=k from Z] at this;exact this
 rw[AF e]
end
section
variable {w:World} {base g n c s:Nat} {e:TypeId} {xs:List Value}
theorem XL (h:w.ownsRow base e s (.slice (some g) n c) n xs) {k:Nat} {u:Value} (a:xs[k]? = some u):cl w (aq g k) u:=by
 rcases h.2 with⟨b,_⟩ | ⟨i,cap,j,b,l,d,m,o,p,f⟩
 . cases b
 cases b
 rw[Blk.cell (t:=e) d];rw[<- f,Bb] at a
 split at a
 . simpa using a
 cases a
theorem YP (h:w.ownsRow base e s (.slice (some g) n c) n xs) (i:Nat):w.frozen? ⟨g,i,none⟩=false:=by
 rcases h.2 with⟨a,_⟩ | ⟨d,cap,f,a,j,b,k,l,m,o⟩
 . cases a
 cases a
 exact Blk.frozen (t:=e) b i
theorem QQ (h:w.ownsRow base e s (.slice (some g) n c) n xs) (i:Nat) (u:Value):(w.setCell (aq g i) u).ownsRow base e s (.slice (some g) n c) n (xs.set i u):=by
 have b:=h.1;rcases h.2 with⟨a,_⟩ | ⟨o,cap,p,a,d,f,j,k,l,m⟩
 . cases a
 cases a
 refine⟨by rw[Bl];exact b,.inr ⟨g,c,_,rfl,d,Blk.set (t:=e) f i u,j,k,uq l,?_⟩⟩;rw[CU,List.take_set,m]
theorem YAI (h:w.ownsRow base e s (.slice (some g) n c) n xs):g<w.heap.size:=(h.lt g rfl).2
end
def pgs (B:Nat):Nat:=(B+14) / 15
structure GeomAt (w:World) (g B:Nat):Prop where
 blk:Blk w g 175 #[ii B,ii 8,ii 24]
 pos:1<=B
 few:B<=64
namespace GeomAt
variable {w w':World} {g B:Nat} {l:List Nat}
theorem keep (h:GeomAt w g B) (a:Keep l w w') (b:g∉l):GeomAt w' g B:=⟨h.blk.keep a b,h.pos,h.few⟩
theorem kO (h:GeomAt w g B) (a:kz w w'):GeomAt w' g B:=h.keep a sq
theorem lt (h:GeomAt w g B):g<w.heap.size:=h.blk.lt
theorem cells (h:GeomAt w g B):cl w g (ii B)/\cl w (aq g 1) (ii 8)/\cl w (aq g 2) (ii 24):=
 ⟨uq (h.blk.cell 0),uq (h.blk.cell 1),uq (h.blk.cell 2)⟩
end GeomAt
theorem ZD {B:Nat} (a:1<=B) (b:B<=64):1<=pgs B/\pgs B<=5:=by unfold pgs;omega
theorem VK (n lo hi:Int) (w:World):cq 115 #[ii n,ii lo,ii hi] w (.bool (decide (lo<=n/\n<=hi))):=by
 by_cases a:lo<=n
 . by_cases b:n<=hi
   all_goals
    go_enter func115,ntmps115
    go_wp2
    go_ret;exact⟨by simp[a,b],rfl⟩
 go_enter func115,ntmps115
 go_wp2
 go_ret;exact⟨by simp;omega,rfl⟩
theorem Jw {w:World} {g B:Nat} (h:GeomAt w g B) (s:Int):cq 116 #[pq g,ii s] w (.bool (decide (0<=s/\s<=7))):=by
 obtain⟨b,c,d⟩:=h.cells;have a:=VK s 0 7 w;go_enter func116,ntmps116;go_wp2_with (refine a.mono ?_;clear a;rintro e w' ⟨rfl,rfl⟩);go_ret;exact⟨JF sq,rfl⟩
section
variable (w:World) (g B:Nat) (h:GeomAt w g B)
include h
theorem ConfigG_is:cr 86 #[pq g] w (.agg #[ii B,ii 8,ii 24]):=by
 obtain⟨a,b,c⟩:=h.cells;have d:=h.lt;go_enter func86,ntmps86
 go_wp2
 exact Ac (v:=.agg #[ii B,ii 8,ii 24]) (by simp[results,results86,go_sem]) rfl ⟨rfl,kq.alloc _⟩
theorem PagesG_is:cr 245 #[pq g] w (pgs B:Nat):=by
 have b:=ConfigG_is w g B h;have d:=h.pos;have f:=h.few;have i:=fun W=>KE underlying28 0 rfl isAgg3 #[ii B,ii 8,ii 24] rfl W
 have a:∀ W,cq 349 #[ii B,ii 15] W (pgs B:Nat):=fun W=>by
  go_enter func349,ntmps349
  go_wp2
  go_ret;exact⟨JL (by unfold pgs;omega),rfl⟩
 go_enter func245,ntmps245;go_wp2_with (first | (go_at_call 86;refine b.mono ?_;rintro e w' ⟨rfl,c⟩) | (go_at_call 349;refine(a _).mono ?_;clear a;rintro e j ⟨rfl,rfl⟩));go_ret;exact⟨rfl,c⟩
theorem RegionLenG_is:cq 244 #[pq g] w (ii 2):=by
 obtain⟨a,b,c⟩:=h.cells;go_enter func244,ntmps244
 go_wp2
 go_ret;exact⟨rfl,rfl⟩
theorem segsG_is:cr 117 #[pq g] w (ii ((6+4*pgs B:Nat))):=by
 have a:=RegionLenG_is w g B h;have b:=PagesG_is w g B h;have d:=(ZD h.pos h.few).2;go_enter func117,ntmps117;go_wp2_with (first | (refine a.mono ?_;clear a;rintro e w' ⟨rfl,rfl⟩) | (refine b.mono ?_;clear b;rintro e f ⟨rfl,c⟩));go_ret;exact⟨JL Z,c⟩
theorem SectorsG_is:cr 254 #[pq g] w (ii ((198+4*pgs B:Nat))):=by
 have b:=segsG_is _ g B (h.kO kq.drew);have i:=(ZD h.pos h.few).2;obtain⟨j,c,d⟩:=h.cells;go_enter func254,ntmps254;go_wp2_with fail;refine ZT (fun w'=>cl w' (aq g 1) (ii 8)/\cl w' (aq g 2) (ii 24)) 13 [[0,2,3,4,5,6,7,8,9,10,11,12],[1]] ⟨c,d⟩ ?_;simp only[PI];iterate 12 refine wG ?_
 refine JB rq fun K f=>?_;go_wp2_with (refine b.mono ?_;clear b;rintro e w1 ⟨rfl,a⟩);replace a:=(Keep.refl [] w).drew.tO a;refine f _ _ (⟨(h.kO a).cells.2.1,(h.kO a).cells.2.2⟩) ?_
 try simp only[Act.put,PU]
 refine VB ?_;go_wp2_with fail;go_ret;exact⟨JL Z,a⟩
omit h in
theorem ZAM (s:Nat) (hs:s<=1):cq 288 #[pq g,s] w s:=by
 have hT:=VK s 0 1 w;rw[AH Z] at hT;go_enter func288,ntmps288;go_wp2_with (refine hT.mono ?_;clear hT;rintro e w' ⟨rfl,rfl⟩);go_ret;exact⟨rfl,rfl⟩
theorem Qq (s:Nat) (c:s<=1):cq 229 #[pq g,s] w (ii ((2+2*s:Nat))):=by
 have a:=VK s 0 1 w;have b:=RegionLenG_is w g B h;rw[AH Z] at a;go_enter func229,ntmps229;go_wp2_with (first | (refine a.mono ?_;clear a;rintro e w' ⟨rfl,rfl⟩) | (refine b.mono ?_;clear b;rintro e d ⟨rfl,rfl⟩));go_ret;exact⟨JL Z,rfl⟩
theorem Zg (s:Nat) (i:s<=7):cr 34 #[pq g,s] w (ii ((6+4*pgs B+24*s:Nat))):=by
 have b:=Jw h s;rw[AH Z] at b;have c:=segsG_is _ g B (h.kO kq.drew);have j:=(ZD h.pos h.few).2;obtain⟨k,l,d⟩:=h.cells;go_enter func34,ntmps34;go_wp2_with (refine b.mono ?_;clear b;rintro e w' ⟨rfl,rfl⟩);refine ZT (fun w'=>cl w' (aq g 2) (ii 24)) 9 [[0,2,3,4,5,6,7,8],[1]] d ?_;simp only[PI];iterate 8 refine wG ?_
 refine JB rq fun K f=>?_;go_wp2_with (refine c.mono ?_;clear c;rintro e w1 ⟨rfl,a⟩);replace a:=(Keep.refl [] w).drew.tO a;refine f _ _ ((h.kO a).cells.2.2) ?_
 try simp only[Act.put,PU]
 refine VB ?_;go_wp2_with fail;go_ret;exact⟨JL Z,a⟩
theorem QAa (c:Bool) (p s:Nat) (m:s<=1) (n:p<pgs B):cr 224 #[pq g,.bool c,p,s] w (ii ((6+2*(p+(if c then pgs B else 0))+s:Nat))):=by
 have b:=fun W=>VK s 0 1 W;rw[AH Z] at b;have d:=fun W=>VK p 0 ((pgs B:Nat)-1) W;rw[AH Z] at d;have k:=fun W (f:kz w W)=>RegionLenG_is W g B (h.kO f);have i:=fun W (f:kz w W)=>PagesG_is W g B (h.kO f);have o:=(ZD h.pos h.few).2;have j:=Keep.refl [] w;cases c
 . go_enter func224,ntmps224
   go_wp2_with (first | (go_at_call 115;refine(b _).mono ?_;clear b;rintro e w' ⟨rfl,rfl⟩) | (go_at_call 245;refine(i _ j).mono ?_;rintro e w1 ⟨rfl,a⟩) | (go_at_call 115;refine(d _).mono ?_;rintro e w' ⟨rfl,rfl⟩) | (go_at_call 244;refine(k _ a).mono ?_;rintro e w' ⟨rfl,rfl⟩));go_ret;exact⟨JL (by simp;omega),a⟩
 go_enter func224,ntmps224
 go_wp2_with (first | (go_at_call 115;refine(b _).mono ?_;clear b;rintro e w' ⟨rfl,rfl⟩) | (go_at_call 245;refine(i _ j).mono ?_;clear j;rintro e w1 ⟨rfl,a⟩) | (go_at_call 245;refine(i _ a).mono ?_;rintro e q ⟨rfl,l⟩) | (go_at_call 115;refine(d _).mono ?_;rintro e w' ⟨rfl,rfl⟩) | (go_at_call 244;refine(k _ (a.tO l)).mono ?_;rintro e w' ⟨rfl,rfl⟩));go_ret;exact⟨JL (by simp;omega),a.tO l⟩
end
theorem XAV (w:World) (B:Nat) (d:1<=B) (f:B<=64) :
 Calls prog 32 #[.agg #[ii B,ii 8,ii 24]] w fun e w'=>∃ g,e=.returned (.tuple #[pq g,zz])/\GeomAt w' g B/\w.heap.size<=g/\kz w w':=by
 have h:(1:Int)<=(B:Nat):=Z
 have i:((B:Nat):Int)<=64:=Z
 have a:=fun W=>VK B 1 64 W;rw[AH Z] at a;have b:=fun W=>VK 8 8 32 W;rw[AH Z] at b;have c:=fun W=>VK 24 24 64 W;rw[AH Z] at c;go_enter func32,ntmps32;go_wp2_with (first | (refine(a _).mono ?_;clear a;rintro e w' ⟨rfl,rfl⟩) | (refine(b _).mono ?_;clear b;rintro e w' ⟨rfl,rfl⟩) | (refine(c _).mono ?_;clear c;rintro e w' ⟨rfl,rfl⟩));go_ret2;exact⟨_,rfl,⟨by have:=Blk.new (w.alloc (.cells #[ii B,ii 8,ii 24] 28)) 175 #[ii B,ii 8,ii 24];simpa using this,d,f⟩,sq,(kq.alloc _).alloc _⟩
structure PPos where
 seg:Nat
 off:Nat
 lsn:Nat
 prev:Nat
 mount:Nat
def PPos.May (p:PPos):Prop:=p.seg<=7/\p.off<=23/\(1<=p.lsn/\p.lsn<=2147483647)/\p.prev<=4294967295/\(1<=p.mount/\p.mount<=2147483647)
def PPos.cs (p:PPos):List Value:=[.int .i64 p.seg,.int .i64 p.off,.int .i64 p.lsn,.int .i64 p.prev,.int .i64 p.mount]
theorem QAc {w:World} {g B:Nat} (h:GeomAt w g B) {p:PPos} (t:p.May) :
 cr 290 #[pq g,.agg p.cs.toArray] w (.bool true):=by
 obtain⟨a,b,d,f,i⟩:=p;obtain⟨u,v,⟨y,z⟩,A,C,D⟩:=t;simp only at u v y z A C D;have o:=fun W (E:kz w W)=>Jw (h.kO E) a;rw[AH Z] at o;have j:=fun W=>VK b 0 23 W;rw[AH Z] at j;have k:=fun W=>VK d 1 2147483647 W;rw[AH Z] at k;have l:=fun W=>VK i 1 2147483647 W;rw[AH Z] at l;have m:=fun W=>VK f 0 4294967295 W;rw[AH Z] at m;simp only[PPos.cs];have J:=h.lt;obtain⟨F,G,H⟩:=h.cells;go_enter func290,ntmps290;go_wp2_with fail;have c:=(Blk.new w 49 #[ii a,ii b,ii d,ii f,ii i]).drew;have n:kz w (w.alloc (.cells #[ii a,ii b,ii d,ii f,ii i] 49)).drew:=(kq.alloc _).drew;have q:=(h.kO n).cells.2.2;have r:=(c.cell 0).trans (show _=some (Value.int .i64 a) from rfl);have s:=(c.cell 1).trans (show _=some (Value.int .i64 b) from rfl);have L:=(c.cell 2).trans (show _=some (Value.int .i64 d) from rfl);have M:=(c.cell 3).trans (show _=some (Value.int .i64 f) from rfl);have N:=(c.cell 4).trans (show _=some (Value.int .i64 i) from rfl);clear F G H;refine ZT (fun w'=>cl w' w.heap.size (ii a)/\cl w' (aq w.heap.size 1) (ii b)/\cl w' (aq g 2) (ii 24)) 13 [[0,1,2],[3,4,5,6,7,8,9,10,11,12]] ⟨r,s,q⟩ ?_;simp only[PI];iterate 3 refine wG ?_
 refine JB rq fun K I=>?_;go_wp2_with (refine(o _ n).mono ?_;rintro e w' ⟨rfl,rfl⟩);refine I _ _ (⟨r,s,q⟩) ?_
 iterate 9 refine wG ?_
 refine VB ?_;go_wp2_with (first | (refine(j _).mono ?_;clear j;rintro e w' ⟨rfl,rfl⟩) | (refine(k _).mono ?_;clear k;rintro e w' ⟨rfl,rfl⟩) | (refine(l _).mono ?_;clear l;rintro e w' ⟨rfl,rfl⟩) | (refine(m _).mono ?_;clear m;rintro e w' ⟨rfl,rfl⟩));go_ret;exact⟨rfl,n⟩
theorem ZAf {w:World} {g B:Nat} (h:GeomAt w g B) (a:Nat) (n:6+4*pgs B<=a) (o:a<198+4*pgs B) :
 cr 133 #[pq g,a] w (.tuple #[ii (((a-(6+4*pgs B)) / 24:Nat)),ii (((a-(6+4*pgs B)) % 24:Nat)),.bool true]):=by
 have f:=fun W (b:kz w W)=>segsG_is W g B (h.kO b);have p:=fun W (b:kz w W)=>SectorsG_is W g B (h.kO b);have u:=(ZD h.pos h.few).2;have i:=fun W=>VK a ((6+4*pgs B:Nat)) ((198+4*pgs B:Nat)-1) W;rw[AH Z] at i;have l:=Keep.refl [] w;obtain⟨s,j⟩:=ex (6+4*pgs B);obtain⟨k,b⟩:∃ k,a=s+k:=⟨a-s,Z⟩;have y:k<192:=Z
 have z:s<=26:=Z
 subst b;rw[<- j] at f i ⊢;rw[Nat.add_sub_cancel_left];have A:=ZB j;clear j n o;go_enter func133,ntmps133
 go_wp2_with (first
  | (go_at_call 117;refine(f _ l).mono ?_;clear l;rintro e w1 ⟨rfl,m⟩)
  | (go_at_call 254;refine(p _ m).mono ?_;rintro e C ⟨rfl,c⟩;replace c:=m.tO c)
  | (go_at_call 115;refine(i _).mono ?_;rintro e w' ⟨rfl,rfl⟩)
  | (go_at_call 117;refine(f _ c).mono ?_;rintro e D ⟨rfl,d⟩;replace d:=c.tO d))
 have q:=(h.kO d).cells.2.2;refine ZT (fun w'=>cl w' (aq g 2) (ii 24)) 15 [[0,1,2,3,4,5,6,7,8,9,10,11,12,13,14]] q ?_;simp only[PI];iterate 15 refine wG ?_
 refine VB ?_;go_wp2_with fail
 have r:IntKind.i64.wrap (((s:Nat)+(k:Nat)-(s:Nat):Int).tdiv 24)=(k / 24:Nat):=by
  rw[show ((s:Nat)+(k:Nat)-(s:Nat):Int)=(k:Nat) from Z,CT Z,AI];omega
 have t:((s:Nat)+(k:Nat)-(s:Nat):Int).tmod 24=(k % 24:Nat):=by
  rw[show ((s:Nat)+(k:Nat)-(s:Nat):Int)=(k:Nat) from Z,Bu Z];omega
 rw[r,t];exact Ac (v:=.tuple #[(k / 24:Nat),(k % 24:Nat),.bool true]) (by simp[results,results133,go_sem]) rfl ⟨rfl,d.drew⟩
theorem ZBA {w:World} {g B:Nat} (h:GeomAt w g B) :
 cr 133 #[pq g,zz] w (.tuple #[zz,zz,.bool false]):=by
 have d:=segsG_is w g B h;have f:=fun W (i:kz w W)=>SectorsG_is W g B (h.kO i);have j:=(ZD h.pos h.few).2;have b:=fun W=>VK 0 ((6+4*pgs B:Nat)) ((198+4*pgs B:Nat)-1) W;rw[AU Z] at b;go_enter func133,ntmps133
 go_wp2_with (first
  | (go_at_call 117;refine d.mono ?_;rintro e w1 ⟨rfl,c⟩)
  | (go_at_call 254;refine(f _ c).mono ?_;rintro e k ⟨rfl,a⟩;replace a:=c.tO a)
  | (go_at_call 115;refine(b _).mono ?_;rintro e w' ⟨rfl,rfl⟩))
 exact Ac (v:=.tuple #[zz,zz,.bool false]) (by simp[results,results133,go_sem]) rfl ⟨rfl,a⟩
structure PDisk where
 n:Nat
 safe:List UInt8
 now:List UInt8
 held:List (Nat×List UInt8)
 faults:List Bool
 fuse:Int
 acts:Nat
 off:Bool
def YZ (p:Nat×List UInt8):List Value:=.int .i64 p.1 :: bys p.2
structure DiskIs (w:World) (base d:Nat) (S N H U:Value) (F:List Nat) (D:PDisk):Prop where
 blk:Blk w d 186 #[S,N,H,U,ii D.fuse,ii D.acts,.bool D.off]
 safe:w.ownsRow base 290 64 S D.n (bys D.safe)
 now:w.ownsRow base 290 64 N D.n (bys D.now)
 held:w.ownsRow base 292 65 H D.held.length (D.held.flatMap YZ)
 flt:w.ownsRow base 4 1 U D.n (D.faults.map .bool)
 ne:S.ownBlock≠N.ownBlock
 foot:F=d :: (S.ownBlock.toList++(N.ownBlock.toList++(H.ownBlock.toList++U.ownBlock.toList)))
 base:base<=d
 pos:0<D.n
 few:D.n<=4096
 ats:∀ p∈D.held,p.1<D.n/\p.2.length=64
 acts:D.held.length<=D.acts
def DiskAt (w:World) (base d:Nat) (F:List Nat) (D:PDisk):Prop:=∃ S N H U,DiskIs w base d S N H U F D
namespace DiskIs
variable {w w':World} {base d:Nat} {S N H U:Value} {F l:List Nat} {D:PDisk}
theorem keep (h:DiskIs w base d S N H U F D) (c:Keep l w w') (e:Apart F l):DiskIs w' base d S N H U F D:=by
 have b:=h.foot
 refine⟨h.blk.keep c (e d (by simp[b])),KA h.safe c fun g a=>e g (by simp[b,a]),KA h.now c fun g a=>e g (by simp[b,a]),KA h.held c fun g a=>e g (by simp[b,a]),
  KA h.flt c fun g a=>e g (by simp[b,a]),h.ne,b,h.base,h.pos,h.few,h.ats,h.acts⟩
theorem kO (h:DiskIs w base d S N H U F D) (a:kz w w'):DiskIs w' base d S N H U F D:=h.keep a Apart.nil_right
theorem lt (h:DiskIs w base d S N H U F D):∀ x∈F,x<w.heap.size:=by
 rw[h.foot];intro x a;simp only[AL,AD] at a;rcases a with rfl | a | a | a | a
 . exact h.blk.lt
 . exact(own_mem h.safe a).2
 . exact(own_mem h.now a).2
 . exact(own_mem h.held a).2
 exact(own_mem h.flt a).2
theorem ge (h:DiskIs w base d S N H U F D):∀ x∈F,base<=x:=by
 rw[h.foot];intro x a;simp only[AL,AD] at a;rcases a with rfl | a | a | a | a
 . exact h.base
 . exact(own_mem h.safe a).1
 . exact(own_mem h.now a).1
 . exact(own_mem h.held a).1
 exact(own_mem h.flt a).1
theorem dS (h:DiskIs w base d S N H U F D):d∉S.ownBlock.toList:=fun a=>own_blk_ne h.safe h.blk (by decide) (uq a)
theorem dN (h:DiskIs w base d S N H U F D):d∉N.ownBlock.toList:=fun a=>own_blk_ne h.now h.blk (by decide) (uq a)
theorem dH (h:DiskIs w base d S N H U F D):d∉H.ownBlock.toList:=fun a=>own_blk_ne h.held h.blk (by decide) (uq a)
theorem dU (h:DiskIs w base d S N H U F D):d∉U.ownBlock.toList:=fun a=>own_blk_ne h.flt h.blk (by decide) (uq a)
theorem len (h:DiskIs w base d S N H U F D):D.now.length=D.n*64/\D.safe.length=D.n*64/\D.faults.length=D.n:=⟨uq h.now.1,uq h.safe.1,uq h.flt.1⟩
end DiskIs
theorem QL {w:World} {g:Nat} {a b c d e f i:Value} (h:Blk w g 186 #[a,b,c,d,e,f,i]) :
 cl w g a/\cl w (aq g 1) b/\cl w (aq g 2) c/\cl w (aq g 3) d/\cl w (aq g 4) e/\cl w (aq g 5) f/\cl w (aq g 6) i:=
 ⟨uq (h.cell 0),uq (h.cell 1),uq (h.cell 2),uq (h.cell 3),uq (h.cell 4),uq (h.cell 5),uq (h.cell 6)⟩
namespace DiskAt
variable {w w':World} {base d:Nat} {F l:List Nat} {D:PDisk}
theorem keep (h:DiskAt w base d F D) (a:Keep l w w') (b:Apart F l):DiskAt w' base d F D:=by
 obtain⟨S,N,H,U,h⟩:=h;exact⟨S,N,H,U,h.keep a b⟩
theorem kO (h:DiskAt w base d F D) (a:kz w w'):DiskAt w' base d F D:=h.keep a Apart.nil_right
theorem lt (h:DiskAt w base d F D):∀ x∈F,x<w.heap.size:=by obtain⟨S,N,H,U,h⟩:=h;exact h.lt
theorem ge (h:DiskAt w base d F D):∀ x∈F,base<=x:=by obtain⟨S,N,H,U,h⟩:=h;exact h.ge
end DiskAt
def PDisk.act (D:PDisk):PDisk:={ D with acts:=D.acts+1 }
def PDisk.write (D:PDisk) (at_:Nat) (b:List UInt8):PDisk:={ D with acts:=D.acts+1,held:=D.held++[(at_,b)],now:=laid D.now (at_*64) b }
theorem KBT {w:World} {base d:Nat} {S N H U:Value} {F:List Nat} {D:PDisk} (h:DiskIs w base d S N H U F D) (c:D.off=false) (f:D.fuse = -1) (m:D.acts<=1000000000) :
 Calls prog 225 #[pq d] w fun e w'=>e=.returned zz/\DiskIs w' base d S N H U F D.act/\Keep [d] w w':=by
 obtain⟨n,o,p,q,j,r,k⟩:=QL h.blk;have s:=h.blk.frozen 4;have t:=h.blk.frozen 5;have u:=h.blk.frozen 6
 have b:Keep [d] w (((w.setCell (aq d 5) (.int .i64 (D.acts+1:Nat))).setCell (aq d 6) (.bool false)).setCell (aq d 4) (.int .i64 (-1))):=
  (((Keep.refl [d] w).sc d 5).sc d 6).sc d 4
 have i:=((h.blk.set 5 (.int .i64 (D.acts+1:Nat))).set 6 (.bool false)).set 4 (.int .i64 (-1))
 have l:DiskIs (((w.setCell (aq d 5) (.int .i64 (D.acts+1:Nat))).setCell (aq d 6) (.bool false)).setCell (aq d 4) (.int .i64 (-1))) base d S N H U F D.act:=
  ⟨by simpa [PDisk.act,c,f] using i,KA h.safe b (fun g a=>by simp;rintro rfl;exact h.dS (uq a)),KA h.now b (fun g a=>by simp;rintro rfl;exact h.dN (uq a)),
    KA h.held b (fun g a=>by simp;rintro rfl;exact h.dH (uq a)),KA h.flt b (fun g a=>by simp;rintro rfl;exact h.dU (uq a)),h.ne,h.foot,h.base,h.pos,h.few,h.ats,Nat.le_succ_of_le h.acts⟩
 rw[c] at k;rw[f] at j;clear i h c f;go_enter func225,ntmps225
 go_wp2
 go_ret;exact⟨rfl,uq l,uq b⟩
theorem XAs {w:World} {base d:Nat} {S N H U:Value} {F:List Nat} {D:PDisk} (h:DiskIs w base d S N H U F D) (k:Nat) (a:k<D.n) :
 cq 118 #[pq d,k] w (.bool true):=by
 obtain⟨g,b,rfl,c,e⟩:=YD h.now h.pos;obtain⟨f,i,j,l,m,n,o⟩:=QL h.blk;have p:((k:Nat):Int)<(D.n:Nat):=Z
 go_enter func118,ntmps118
 go_wp2
 go_ret;exact⟨rfl,rfl⟩
theorem ElemN.wp_make {P:Program} {t e:TypeId} {z:Value} {s bytes:Nat} (E:ElemN P t e z s bytes) {w:World} {o:Oper} {a:Act} (f:o.guard=none)
 (l c:Operand) (i:o.op=Op.makeSlice t l c) (b d:IntKind) (n:Nat) (j:a.eval l=.int b n) (k:a.eval c=.int d n) (m:bytes*n<=281474976710656) (p:n<=9223372036854775807)
 (h:∀ w' g,g=w.heap.size->w'.heap.size=g+1->Blk w' g e (madeCells z.cells (n*s))->kz w w'->wpList P ops Q rest (a.put o.dst (.slice (some (aq g 0)) n n)) w'):wpList P ops Q (o :: rest) a w:=
 B5 f fun _ q=>E.wp1_make l c i b d n j k m p fun w' g r u v y=>q _ _ (h w' g r u v y)