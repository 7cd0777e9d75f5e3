/- Lemmas of the proof, with their conditions. -/
import Derived.Test.YthgphmfipnjllaaGreatV03
namespace Go.Proofs.YthgphmfipnjllaaGreat
set_option linter.unusedSimpArgs false
set_option linter.unusedVariables false
set_option maxHeartbeats 2000000
set_option maxRecDepth 20000
section
open Go.RowKit
structure ElemN (P:Program) (t e:TypeId) (z:Value) (s bytes:Nat):Prop where
 und:P.underlying t=some (.slice e)
 info:∃ i,P.info? e=some i∧i.zero=some z∧i.size=s∧i.bytes=bytes
 cells:z.cells.size=s
 pos:0<s
theorem ElemN.of {P:Program} {t e:TypeId} {z:Value} {s bytes:Nat} (hu:P.underlying t=some (.slice e)) (h:(P.info? e).map (fun i=>(i.zero,i.size,i.bytes))=some (some z,s,bytes)) (h1:z.cells.size=s) (hs:0<s):ElemN P t e z s bytes:=by
 obtain⟨i,h2,h3,h4,h5⟩:=info_parts h
 exact⟨hu,⟨i,h2,h3,h4,h5⟩,h1,hs⟩
section
variable {P:Program} {t e:TypeId} {z:Value} {s bytes:Nat}
theorem ElemN.run_app (E:ElemN P t e z s bytes) (w:World) (base:Nat) (ty:TypeId) (v:Value) (n:Nat) (xs:List Value) (hown:w.ownsRow base e s v n xs)
 (ad:Addr) (m c:Nat) (news:List Value) (hr:Rd w (some ad) (m*s) news) (h1:∀ u∈news,u.oneCell'=true)
 (h63:n+m≤9223372036854775807) (hbytes:(n+m)*bytes≤140737488355328) (hbase:base≤w.heap.size) :
 ∃ v' w',(Builtin.append_ #[t,t] ty #[v,.slice (some ad) m c]).run P w=.ok v' w'∧w'.ownsRow base e s v' (n+m) (xs++news)∧Keep v.ownBlock.toList w w' ∧
   (v'.ownBlock=v.ownBlock∨v'.ownBlock=some w.heap.size)∧(v'=.slice none 0 0↔v=.slice none 0 0∧m=0):=by
 obtain⟨i,hi,hz,hs,hb⟩:=E.info
 obtain⟨v',w',h1,h2,h3,h4,h5⟩:=run_append_own_at (P:=P) w base t ty e i z s bytes E.und hi hz hs hb E.cells E.pos v n xs hown ad m c news hr.1 (fun j u hu=>by
  have hjl:j<news.length:=(List.getElem?_eq_some_iff.1 hu).1
  obtain⟨b,o,hA,_,hc⟩:=hr.2 (by rw[← hr.1];omega)
  cases hA
  rw[Addr.add_mid];exact hc j u hu) h1 (by simpa [maxLen] using h63) hbytes hbase
 exact⟨v',w',h1,h2,Keep.ofGrown h3,h5,h4⟩
theorem ElemN.wp1_app (E:ElemN P t e z s bytes) {w:World} {o:Oper} {a:Act} {K:Act→World→Prop} {Q:Exit→Act→World→Prop} (sl x:Operand)
 (ho:o.op=.call { callee:=.builtin .append,args:=#[sl,x],argTypes:=#[t,t] })
 (base:Nat) (v:Value) (n:Nat) (xs:List Value) (hs:a.eval sl=v) (hown:w.ownsRow base e s v n xs)
 (ad:Addr) (m c:Nat) (news:List Value) (hx:a.eval x=.slice (some ad) m c) (hr:Rd w (some ad) (m*s) news) (h1:∀ u∈news,u.oneCell'=true)
 (h63:n+m≤9223372036854775807) (hbytes:(n+m)*bytes≤140737488355328) (hbase:base≤w.heap.size)
 (h:∀ v' w',w'.ownsRow base e s v' (n+m) (xs++news)→Keep v.ownBlock.toList w w'→(v'.ownBlock=v.ownBlock∨v'.ownBlock=some w.heap.size)→(v'=.slice none 0 0↔v=.slice none 0 0∧m=0)→K (a.put o.dst v') w'):o.wp P a w K Q:=by
 obtain⟨v',w',hrun,h2,h3,h4,h5⟩:=E.run_app w base o.type v n xs hown ad m c news hr h1 h63 hbytes hbase
 unfold Oper.wp execOp
 simp only[ho,resolve,invoke,builtin,Sem.run_bind,Sem.run_pure,Result.andThen_ok,List.map_toArray,List.map_cons,List.map_nil,hs,hx,hrun]
 exact h v' w' h2 h3 h4 h5
theorem ElemN.wp_app (E:ElemN P t e z s bytes) {w:World} {ops:Array Oper} {rest:List Oper} {o:Oper} {a:Act} {Q:Exit→Act→World→Prop} (hgd:o.guard=none) (sl x:Operand)
 (ho:o.op=.call { callee:=.builtin .append,args:=#[sl,x],argTypes:=#[t,t] })
 (base:Nat) (v:Value) (n:Nat) (xs:List Value) (hs:a.eval sl=v) (hown:w.ownsRow base e s v n xs)
 (ad:Addr) (m c:Nat) (news:List Value) (hx:a.eval x=.slice (some ad) m c) (hr:Rd w (some ad) (m*s) news) (h1:∀ u∈news,u.oneCell'=true)
 (h63:n+m≤9223372036854775807) (hbytes:(n+m)*bytes≤140737488355328) (hbase:base≤w.heap.size)
 (h:∀ v' w',w'.ownsRow base e s v' (n+m) (xs++news)→Keep v.ownBlock.toList w w'→(v'.ownBlock=v.ownBlock∨v'.ownBlock=some w.heap.size)→(v'=.slice none 0 0↔v=.slice none 0 0∧m=0)→wpList P ops Q rest (a.put o.dst v') w'):wpList P ops Q (o :: rest) a w:=
 wpList_plain hgd fun _ hK=>E.wp1_app sl x ho base v n xs hs hown ad m c news hx hr h1 h63 hbytes hbase fun v' w' h2 h3 h4 h5=>hK _ _ (h v' w' h2 h3 h4 h5)
def cutN (s:Nat) (A:Option Addr) (k cap:Nat):Option Addr:=if cap=k then A else A.map (·.add (k*s))
theorem Rd.cutN {w:World} {A:Option Addr} {n:Nat} {xs:List Value} (s:Nat) (h:Rd w A (n*s) xs) {k cap:Nat} (hk:k≤n) (hc:n≤cap):Rd w (cutN s A k cap) ((n-k)*s) (xs.drop (k*s)):=by
 have hmul:k*s≤n*s:=Nat.mul_le_mul_right _ hk
 refine⟨by rw[List.length_drop,h.1,Nat.sub_mul],fun hn=>?_⟩
 have hkn:k<n:=by
  rcases Nat.lt_or_ge k n with h1 | h1
  · exact h1
  · rw[show n-k=0 by omega,Nat.zero_mul] at hn;omega
 have hs:0<s:=by
  rcases Nat.eq_zero_or_pos s with e | e
  · subst e;simp at hn
  · exact e
 obtain⟨b,o,rfl,hb,hcell⟩:=h.2 (Nat.mul_pos (by omega) hs)
 unfold Go.Proofs.YthgphmfipnjllaaGreat.cutN
 rw[if_neg (by omega)]
 refine⟨b,o+k*s,by simp[Addr.add_mid],hb,fun j u hu=>?_⟩
 rw[show o+k*s+j=o+(k*s+j) by omega]
 exact hcell _ u (by rw[← hu,List.getElem?_drop])
theorem ElemN.run_size (E:ElemN P t e z s bytes) (w:World):(sizeOf (P.elem t)).run P w=.ok s w:=by
 obtain⟨i,hi,hz,h1,hb⟩:=E.info
 have he:P.elem t=e:=by simp[Program.elem,E.und]
 simp[sizeOf,typeInfo,he,hi,h1]
theorem ElemN.und' (E:ElemN P t e z s bytes):P.underlying t=some (.slice (P.elem t)):=by
 have he:P.elem t=e:=by simp[Program.elem,E.und]
 rw[he];exact E.und
theorem ElemN.run_l (E:ElemN P t e z s bytes) (A:Option Addr) (n cap:Nat) (kl:IntKind) (l:Int) (h0:0≤l) (h1:l≤n) (w:World) :
 (Instr.sliceAt t (.slice A n cap) (some (.int kl l)) none none).run P w=.ok (.slice (cutN s A l.toNat cap) (n-l.toNat) (cap-l.toNat)) w:=by
 rw[run_sliceAt_slice _ _ _ _ _ _ E.und',run_slice_l _ _ _ _ _ E.und' _ _ h0 h1,E.run_size]
 simp only[Result.andThen,sliced,Go.Proofs.YthgphmfipnjllaaGreat.cutN]
end
theorem Rd.of_ownN {w:World} {A:Option Addr} {n c s base:Nat} {e:TypeId} {xs:List Value} (h:w.ownsRow base e s (.slice A n c) n xs):Rd w A (n*s) xs:=by
 refine⟨h.1,fun hn=>?_⟩
 rcases h.2 with⟨he,h0⟩ | ⟨g,cap,cur,he,hb,hg,hc,hm,hs,ht⟩
 · subst h0;simp at hn
 · injection he with hA
   subst hA
   refine⟨g,0,rfl,Blk.lt (t:=e) hg,fun j u hu=>?_⟩
   rw[Nat.zero_add,Blk.cell (t:=e) hg]
   rw[← ht,List.getElem?_take] at hu
   split at hu
   · simpa using hu
   · cases hu
/-! ### make -/
theorem QN (z:Value) (s m:Nat) (hs:0<s):madeCells (Array.replicate s z) m=Array.replicate m z:=by
 apply Array.ext
 · simp[size_madeCells]
 · intro i h1 h2
   have:i % s<s:=Nat.mod_lt _ hs
   simp[madeCells,this]
section
variable {P:Program} {t e:TypeId} {z:Value} {s bytes:Nat}
theorem ElemN.run_make (E:ElemN P t e z s bytes) (kl kc:IntKind) (n:Nat) (hb:bytes*n≤281474976710656) (h63:n≤9223372036854775807) (w:World) :
 (Instr.makeSlice t (.int kl (n:Int)) (.int kc (n:Int))).run P w=.ok (.slice (some ⟨w.heap.size,0,none⟩) n n) (w.alloc (.cells (madeCells z.cells (n*s)) e)):=by
 obtain⟨i,hi,hz,h1,rfl⟩:=E.info
 have hb':(i.bytes:Int)*(n:Int)≤281474976710656:=by
  have h:((i.bytes*n:Nat):Int)≤281474976710656:=by omega
  rwa [Int.natCast_mul] at h
 have hr:=Go.run_make (P:=P) w t e i z E.und hi hz kl kc n n (by omega) (by omega) hb' (by omega)
 simp only[Int.toNat_natCast,h1] at hr
 exact hr
theorem ElemN.wp1_make (E:ElemN P t e z s bytes) {w:World} {o:Oper} {a:Act} {K:Act→World→Prop} {Q:Exit→Act→World→Prop}
 (l c:Operand) (hop:o.op=Op.makeSlice t l c) (kl kc:IntKind) (n:Nat) (hl:a.eval l=.int kl n) (hc:a.eval c=.int kc n) (hb:bytes*n≤281474976710656) (h63:n≤9223372036854775807)
 (h:∀ w' g,g=w.heap.size→w'.heap.size=g+1→Blk w' g e (madeCells z.cells (n*s))→Keep [] w w'→K (a.put o.dst (.slice (some ⟨g,0,none⟩) n n)) w'):o.wp P a w K Q:=by
 have hrun:=E.run_make kl kc n hb h63 w
 unfold Oper.wp
 simp[execOp,hop,hl,hc,hrun,Result.andThen]
 exact h _ _ rfl (by simp) (Blk.new _ _ _) ((Keep.refl _ _).alloc _)
end
/-! ### An element's cells -/
section
variable {w:World} {base g n c s i:Nat} {e:TypeId} {xs:List Value}
theorem Kx (h:w.ownsRow base e s (.slice (some ⟨g,0,none⟩) n c) n xs) (hi:i<n):w.rangeAt g (i*s) (seg s xs i):=by
 have h1:(i+1)*s≤n*s:=Nat.mul_le_mul_right _ hi
 rw[Nat.add_mul,Nat.one_mul] at h1
 rcases h.2 with⟨he,_⟩ | ⟨g',cap,cur,he,hb,hg,hn,hm,hs,ht⟩
 · cases he
 · cases he
   intro j v hv
   have hj:j<s:=by
    have:=(List.getElem?_eq_some_iff.1 hv).1
    simp[seg] at this
    omega
   rw[seg_get _ _ _ _ hj,← ht,List.getElem?_take] at hv
   rw[Blk.cell (t:=e) hg]
   split at hv
   · simpa using hv
   · cases hv
theorem ZAB (h:w.ownsRow base e s (.slice (some ⟨g,0,none⟩) n c) n xs) (hi:i<n):w.there g (i*s) s:=by
 have h1:(i+1)*s≤n*s:=Nat.mul_le_mul_right _ hi
 rw[Nat.add_mul,Nat.one_mul] at h1
 rcases h.2 with⟨he,_⟩ | ⟨g',cap,cur,he,hb,hg,hn,hm,hs,ht⟩
 · cases he
 · cases he
   have h2:n*s≤c*s:=Nat.mul_le_mul_right _ hn
   intro j hj
   rw[Blk.cell (t:=e) hg]
   refine⟨?_,Blk.frozen (t:=e) hg _⟩
   rw[Array.getElem?_eq_getElem (by omega)]
   rfl
theorem ZAe {α:Type} (bs:List α) (a:Nat) (ns:List α) (k:Nat) (ha:a≤bs.length) (h:a+ns.length≤k):(laid bs a ns).take k=laid (bs.take k) a ns:=by
 have hl:(bs.take a++ns).length=a+ns.length:=by simp;omega
 unfold laid
 rw[List.take_append,List.take_of_length_le (l:=bs.take a++ns) (by omega),hl,List.drop_take,List.take_take,Nat.min_eq_left (by omega)]
theorem Xx {α:Type} (bs:List α) (a:Nat) (x:α) (ns:List α) (h:a<bs.length):laid (bs.set a x) (a+1) ns=laid bs a (x :: ns):=by
 unfold laid
 rw[List.set_eq_take_append_cons_drop,if_pos h]
 have hl:(bs.take a).length=a:=by simp;omega
 rw[List.take_append,List.drop_append,hl]
 have h1:(bs.take a).take (a+1)=bs.take a:=List.take_of_length_le (by omega)
 have h2:(bs.take a).drop (a+1+ns.length)=[]:=List.drop_of_length_le (by omega)
 rw[h1,h2,show a+1-a=1 by omega,show a+1+ns.length-a=ns.length+1 by omega,List.drop_succ_cons,List.drop_drop]
 simp
 congr 1
 omega
theorem Blk.setCells {t:TypeId} (ys:List Value):∀ {w:World} {cs:Array Value} (o:Nat),Blk w g t cs→o+ys.length≤cs.size→Blk (w.setCells g o ys) g t (laid cs.toList o ys).toArray:=by
 induction ys with
 | nil=>intro w cs o h _;rw[laid_nil];exact h
 | cons y ys ih=>
   intro w cs o h ho
   rw[World.setCells]
   have h1:=ih (o+1) (h.set o y) (by simp at ho ⊢;omega)
   rw[Array.toList_setIfInBounds,Xx _ _ _ _ (by simp at ho ⊢;omega)] at h1
   exact h1
theorem Keep.setCells {l:List Nat} (ys:List Value):∀ {w w':World} (o:Nat),Keep l w w'→g∈l∨w.heap.size≤g→Keep l w (w'.setCells g o ys):=by
 induction ys with
 | nil=>intro w w' o h _;exact h
 | cons y ys ih=>
   intro w w' o h hg
   rw[World.setCells]
   exact ih (o+1) (h.setCell (p:=⟨g,o,none⟩) hg y) hg
theorem Js (h:w.ownsRow base e s (.slice (some ⟨g,0,none⟩) n c) n xs) (hi:i<n) {ys:List Value} (hy:ys.length=s) :
 (w.setCells g (i*s) ys).ownsRow base e s (.slice (some ⟨g,0,none⟩) n c) n (laid xs (i*s) ys):=by
 have h1:(i+1)*s≤n*s:=Nat.mul_le_mul_right _ hi
 rw[Nat.add_mul,Nat.one_mul] at h1
 have hx:=h.1
 rcases h.2 with⟨he,_⟩ | ⟨g',cap,cur,he,hb,hg,hn,hm,hs,ht⟩
 · cases he
 · cases he
   have h2:n*s≤c*s:=Nat.mul_le_mul_right _ hn
   have hB:=Blk.setCells (t:=e) (cs:=cur) ys (i*s) hg (by omega)
   refine⟨by rw[XF _ _ _ (by omega)];exact hx,.inr ⟨g,c,_,rfl,hb,hB,hn,hm,?_,?_⟩⟩
   · simp[XF cur.toList (i*s) ys (by simp;omega),hs]
   · rw[← ht,List.toList_toArray]
     exact ZAe _ _ _ _ (by simp;omega) (by omega)
end
theorem YY {w:World} {base n s:Nat} {v:Value} {e:TypeId} {xs:List Value} (h:w.ownsRow base e s v n xs):∀ x∈v.ownBlock.toList,x<w.heap.size:=fun x hx=>(own_mem h hx).2
theorem Xw (s:Nat) (xs:List UInt8) (i:Nat):seg s (bys xs) i=bys (seg s xs i):=by simp[seg,Yb,YO]
/-! ### build,at parts of many cells -/
theorem ZAc (vs:List Value):∀ (cells:Array Value) (off k:Nat),off+k+vs.length≤cells.size →
 (vs.zipIdx k).foldl (fun cs p=>cs.setIfInBounds (off+p.2) p.1) cells=(laid cells.toList (off+k) vs).toArray:=by
 induction vs with
 | nil=>intro cells off k _;simp
 | cons v vs ih=>
   intro cells off k h
   simp only[List.length_cons] at h
   rw[List.zipIdx_cons,List.foldl_cons,ih _ _ _ (by simp;omega),Array.toList_setIfInBounds,← Xx _ _ _ _ (by simp;omega)]
   rfl
theorem Qo (place:Nat→Option (Nat×Nat)) (cells:Array Value) (i off size:Nat) (v:Value) (rest:List (Nat×Value)) (hp:place i=some (off,size)) (hs:v.cells.size=size) (hb:off+size≤cells.size) :
 Instr.fill place cells ((i,v) :: rest)=Instr.fill place (laid cells.toList off v.cells.toList).toArray rest:=by
 have h:=ZAc v.cells.toList cells off 0 (by simp;omega)
 simp only[Nat.add_zero] at h
 rw[Instr.fill,hp]
 simp only
 rw[if_neg (fun q=>by rw[Bool.or_eq_true,decide_eq_true_eq,decide_eq_true_eq] at q;exact q.elim (fun q=>q hs) (fun q=>by rw[hs] at q;omega)),← h,← Array.foldl_toList,Array.toList_zipIdx]
theorem Vz {P:Program} {t:TypeId} {fields:Array Field} (places:List (Nat×Nat)) (z:Value) (hu:P.underlying t=some (.struct fields)) (hz:(P.info? t).map (·.zero)=some (some z))
 (hp:fields.toList.mapM (fun f=>(P.info? f.type).map fun i=>(f.offset,i.size))=some places) (parts:List (Nat×Value)):P.built t parts=Instr.fill (places.toArray[·]?) z.cells parts:=by
 obtain⟨it,hit,hz⟩:∃ it,P.info? t=some it∧it.zero=some z:=by
  cases hi:P.info? t with
  | none=>rw[hi] at hz;cases hz
  | some it=>rw[hi] at hz;exact⟨it,rfl,by simpa using hz⟩
 unfold Program.built
 simp only[hit,hu,hz,hp]
theorem QD {w:World} {base n s:Nat} {e:TypeId} {v:Value} {xs:List Value} (h:w.ownsRow base e s v n xs) (hn:0<n):∃ g c,v=.slice (some ⟨g,0,none⟩) n c∧n≤c∧c≤9223372036854775807:=by
 rcases h.2 with⟨rfl,h0⟩ | ⟨g',cap,cur,he,hb,hg,hc,hm,hs,ht⟩
 · omega
 · exact⟨g',cap,he,hc,by simpa [maxLen] using hm⟩
theorem Rd.some64 {w:World} {A:Option Addr} {n:Nat} {xs:List Value} (h:Rd w A n xs) (hn:0<n):∃ b o,A=some ⟨b,o,none⟩∧b<w.heap.size∧w.rangeAt b o xs:=by
 obtain⟨b,o,rfl,hb,hc⟩:=h.2 hn
 exact⟨b,o,rfl,hb,hc⟩
theorem Keep.range {l:List Nat} {w w':World} {b o:Nat} {xs:List Value} (h:Keep l w w') (hr:w.rangeAt b o xs) (hb:b<w.heap.size) (hl:b∉l):w'.rangeAt b o xs:=fun j v hv=>(h.cell hb hl _).trans (hr j v hv)
/-! ### Operations by name,in a drawn region -/
section
variable {P:Program} {o:Oper} {a:Act} {w w':World} {v:Value}
theorem ZX (ty:TypeId) (x:Operand) (ho:o.op=.load ty x) (p:Value) (hx:a.eval x=p) (h:(Instr.loadAt ty p).run P w=.ok v w):(execOp a.eval o).run P w=.ok (.value v) w:=by
 unfold execOp
 simp only[ho,hx,Sem.run_bind,Sem.run_pure,h,Result.andThen_ok]
theorem ZAN (ty:TypeId) (parts:Array (Nat×Operand)) (ho:o.op=.build ty parts) {qs:Array (Nat×Value)} (h:(Instr.build ty qs).run P w=.ok v w) (hx:(parts.map fun(i,x)=>(i,a.eval x))=qs):(execOp a.eval o).run P w=.ok (.value v) w:=by
 unfold execOp
 simp only[ho,hx,Sem.run_bind,Sem.run_pure,h,Result.andThen_ok]
theorem Jp {K:Act→World→Prop} {Q:Exit→Act→World→Prop} (ty:TypeId) (len:Nat) (parts:Array (Nat×Operand)) (ho:o.op=.buildSlice ty len parts) {qs:Array (Nat×Value)}
 (h:(Instr.buildSlice ty len qs).run P w=.ok v w') (hx:(parts.map fun(i,x)=>(i,a.eval x))=qs) (hK:K (a.put o.dst v) w'):o.wp P a w K Q:=by
 unfold Oper.wp execOp
 simp only[ho,hx,Sem.run_bind,Sem.run_pure,h,Result.andThen_ok]
 exact hK
theorem YAa {K:Act→World→Prop} {Q:Exit→Act→World→Prop} (ty:TypeId) (x y:Operand) (ho:o.op=.store ty x y) (p u:Value) (hx:a.eval x=p) (hy:a.eval y=u)
 (h:(Instr.storeAt ty p u).run P w=.ok () w') (hK:K (a.put o.dst undef) w'):o.wp P a w K Q:=by
 unfold Oper.wp execOp
 simp only[ho,hx,hy,Sem.run_bind,Sem.run_pure,h,Result.andThen_ok]
 exact hK
theorem XX {ops:Array Oper} {rest:List Oper} {Q:Exit→Act→World→Prop} (hgd:o.guard=none) (ty:TypeId) (x y:Operand) (ho:o.op=.store ty x y) (p u:Value) (hx:a.eval x=p) (hy:a.eval y=u)
 (h:(Instr.storeAt ty p u).run P w=.ok () w') (hK:wpList P ops Q rest (a.put o.dst undef) w'):wpList P ops Q (o :: rest) a w:=
 wpList_plain hgd fun _ hk=>YAa ty x y ho p u hx hy h (hk _ _ hK)
theorem XAp {ops:Array Oper} {rest:List Oper} {Q:Exit→Act→World→Prop} (hgd:o.guard=none) (ty:TypeId) (x:Operand) (ho:o.op=.load ty x) (p:Value) (hx:a.eval x=p)
 (h:(Instr.loadAt ty p).run P w=.ok v w) (hK:wpList P ops Q rest (a.put o.dst v) w):wpList P ops Q (o :: rest) a w:=
 wpList_plain hgd fun _ hk=>by
  unfold Oper.wp
  rw[ZX ty x ho p hx h]
  exact hk _ _ hK
theorem Kf (ty:TypeId) (x i:Operand) (ho:o.op=.indexAddr ty x i) (p q:Value) (hx:a.eval x=p) (hi:a.eval i=q) (h:(Instr.indexAt ty p q).run P w=.ok v w):(execOp a.eval o).run P w=.ok (.value v) w:=by
 unfold execOp
 simp only[ho,hx,hi,Sem.run_bind,Sem.run_pure,h,Result.andThen_ok]
theorem Kd {ops:Array Oper} {rest:List Oper} {Q:Exit→Act→World→Prop} (hgd:o.guard=none) (h:(execOp a.eval o).run P w=.ok (.value v) w) (hK:wpList P ops Q rest (a.put o.dst v) w):wpList P ops Q (o :: rest) a w:=
 wpList_plain hgd fun _ hk=>by
  unfold Oper.wp
  rw[h]
  exact hk _ _ hK
theorem QAb {ops:Array Oper} {rest:List Oper} {Q:Exit→Act→World→Prop} (hgd:o.guard=none) (ty:TypeId) (ho:o.op=.alloc ty) (z:Value) (hz:(P.info? ty).map (·.zero)=some (some z))
 (hK:wpList P ops Q rest (a.put o.dst (.pointer (some ⟨w.heap.size,0,none⟩))) (w.alloc (.cells z.cells ty))):wpList P ops Q (o :: rest) a w:=by
 refine wpList_plain hgd fun _ hk=>?_
 obtain⟨it,hit,hz⟩:∃ it,P.info? ty=some it∧it.zero=some z:=by
  cases hi:P.info? ty with
  | none=>rw[hi] at hz;cases hz
  | some it=>rw[hi] at hz;exact⟨it,rfl,by simpa using hz⟩
 have hrun:(execOp a.eval o).run P w=.ok (.value (.pointer (some ⟨w.heap.size,0,none⟩))) (w.alloc (.cells z.cells ty)):=by
  unfold execOp
  simp[ho,Instr.alloc,zeroValue,typeInfo,hit,hz,newVar,newRow]
 unfold Oper.wp
 rw[hrun]
 exact hk _ _ hK
theorem VX {g:Nat} {t:TypeId} {cs:Array Value} (h:Blk w g t cs) (n:Nat) (hn:n≤cs.size):w.there g 0 n:=fun j hj=>by
 rw[Nat.zero_add,h.cell,Array.getElem?_eq_getElem (by omega)]
 exact⟨rfl,h.frozen _⟩
theorem Blk.all {g:Nat} {t:TypeId} {cs:Array Value} (h:Blk w g t cs) (ys:List Value) (hy:ys.length=cs.size):Blk (w.setCells g 0 ys) g t ys.toArray:=by
 have:=h.setCells ys 0 (by omega)
 rwa [ZAL _ _ (by simpa using hy)] at this
theorem Blk.range {g:Nat} {t:TypeId} {cs:Array Value} (h:Blk w g t cs):w.rangeAt g 0 cs.toList:=fun j v hv=>by
 rw[Nat.zero_add,h.cell]
 simpa using hv
theorem KAV {b off:Nat} {xs:List Value} (h:w.rangeAt b off xs) (i n:Nat):w.rangeAt b (off+i) ((xs.drop i).take n):=fun j v hv=>by
 rw[List.getElem?_take] at hv
 split at hv
 · rw[List.getElem?_drop] at hv
   rw[Nat.add_assoc]
   exact h _ _ hv
 · cases hv
theorem KT {t e:TypeId} {s:Nat} (hu:P.underlying t=some (.slice e)) (hs:(P.info? e).map (·.size)=some s) (g off n c k:Nat) (hk:k<n) (W:World) :
 (Instr.indexAt t (.slice (some ⟨g,off,none⟩) n c) (.int .i64 (k:Nat))).run P W=.ok (.pointer (some ⟨g,off+k*s,none⟩)) W:=by
 have hz:(sizeOf e).run P W=.ok s W:=by
  cases hi:P.info? e with
  | none=>rw[hi] at hs;cases hs
  | some i=>rw[hi] at hs;simp only[Option.map_some,Option.some.injEq] at hs;simp[sizeOf,typeInfo,hi,hs]
 have h1:(0:Int)≤(k:Nat)∧((k:Nat):Int)<(n:Nat):=by omega
 simp[Instr.indexAt,asIntOf,run_underlying hu,hz,Addr.add_mid]
 omega
end
theorem VF {P:Program} {t:TypeId} {fields:Array Field} {f:Field} (hu:P.underlying t=some (.struct fields)) (k:Nat) (hf:fields[k]? = some f) (ha:∀ w,(isAgg f.type).run P w=.ok false w) (cs:Array Value) {v:Value} (hv:cs[f.offset]? = some v) (W:World) :
 (Instr.field t (.agg cs) k).run P W=.ok v W:=by
 simp[Instr.field,run_underlying hu,hf,part,ha,asAgg,hv]
end
section
open Go.RowKit
structure PDisk where
 n:Nat
 safe:List UInt8
 now:List UInt8
 held:List (Nat×List UInt8)
 faults:List Bool
 fuse:Int
 acts:Nat
 off:Bool
def JQ (p:Nat×List UInt8):List Value:=.int .i64 p.1 :: bys p.2
structure DiskIs (w:World) (base d:Nat) (S N H U:Value) (F:List Nat) (D:PDisk):Prop where
 blk:Blk w d 174 #[S,N,H,U,.int .i64 D.fuse,.int .i64 D.acts,.bool D.off]
 safe:w.ownsRow base 248 64 S D.n (bys D.safe)
 now:w.ownsRow base 248 64 N D.n (bys D.now)
 held:w.ownsRow base 250 65 H D.held.length (D.held.flatMap JQ)
 flt:w.ownsRow base 4 1 U D.n (D.faults.map .bool)
 ne:S.ownBlock≠N.ownBlock
 foot:F=d :: (S.ownBlock.toList++(N.ownBlock.toList++(H.ownBlock.toList++U.ownBlock.toList)))
 base:base≤d
 pos:0<D.n
 few:D.n≤4096
 ats:∀ p∈D.held,p.1<D.n∧p.2.length=64
 acts:D.held.length≤D.acts
def DiskAt (w:World) (base d:Nat) (F:List Nat) (D:PDisk):Prop:=∃ S N H U,DiskIs w base d S N H U F D
namespace DiskIs
variable {w w':World} {base d:Nat} {S N H U:Value} {F l:List Nat} {D:PDisk}
theorem keep (h:DiskIs w base d S N H U F D) (hk:Keep l w w') (ha:Apart F l):DiskIs w' base d S N H U F D:=by
 have hf:=h.foot
 refine⟨h.blk.keep hk (ha d (by simp[hf])),KA h.safe hk fun g hg=>ha g (by simp[hf,hg]),KA h.now hk fun g hg=>ha g (by simp[hf,hg]),KA h.held hk fun g hg=>ha g (by simp[hf,hg]),
  KA h.flt hk fun g hg=>ha g (by simp[hf,hg]),h.ne,hf,h.base,h.pos,h.few,h.ats,h.acts⟩
theorem keep0 (h:DiskIs w base d S N H U F D) (hk:Keep [] w w'):DiskIs w' base d S N H U F D:=h.keep hk Apart.nil_right
theorem lt (h:DiskIs w base d S N H U F D):∀ x∈F,x<w.heap.size:=by
 rw[h.foot]
 intro x hx
 simp only[List.mem_cons,List.mem_append] at hx
 rcases hx with rfl | hx | hx | hx | hx
 · exact h.blk.lt
 · exact(own_mem h.safe hx).2
 · exact(own_mem h.now hx).2
 · exact(own_mem h.held hx).2
 · exact(own_mem h.flt hx).2
theorem ge (h:DiskIs w base d S N H U F D):∀ x∈F,base≤x:=by
 rw[h.foot]
 intro x hx
 simp only[List.mem_cons,List.mem_append] at hx
 rcases hx with rfl | hx | hx | hx | hx
 · exact h.base
 · exact(own_mem h.safe hx).1
 · exact(own_mem h.now hx).1
 · exact(own_mem h.held hx).1
 · exact(own_mem h.flt hx).1
theorem dS (h:DiskIs w base d S N H U F D):d∉S.ownBlock.toList:=fun hm=>own_blk_ne h.safe h.blk (by decide) (by simpa using hm)
theorem dN (h:DiskIs w base d S N H U F D):d∉N.ownBlock.toList:=fun hm=>own_blk_ne h.now h.blk (by decide) (by simpa using hm)
theorem dH (h:DiskIs w base d S N H U F D):d∉H.ownBlock.toList:=fun hm=>own_blk_ne h.held h.blk (by decide) (by simpa using hm)
theorem dU (h:DiskIs w base d S N H U F D):d∉U.ownBlock.toList:=fun hm=>own_blk_ne h.flt h.blk (by decide) (by simpa using hm)
theorem len (h:DiskIs w base d S N H U F D):D.now.length=D.n*64∧D.safe.length=D.n*64∧D.faults.length=D.n:=⟨by simpa using h.now.1,by simpa using h.safe.1,by simpa using h.flt.1⟩
end DiskIs
theorem XH {w:World} {g:Nat} {x0 x1 x2 x3 x4 x5 x6:Value} (h:Blk w g 174 #[x0,x1,x2,x3,x4,x5,x6]) :
 w.cell? ⟨g,0,none⟩=some x0∧w.cell? ⟨g,1,none⟩=some x1∧w.cell? ⟨g,2,none⟩=some x2∧w.cell? ⟨g,3,none⟩=some x3∧w.cell? ⟨g,4,none⟩=some x4∧w.cell? ⟨g,5,none⟩=some x5∧w.cell? ⟨g,6,none⟩=some x6:=
 ⟨by simpa using h.cell 0,by simpa using h.cell 1,by simpa using h.cell 2,by simpa using h.cell 3,by simpa using h.cell 4,by simpa using h.cell 5,by simpa using h.cell 6⟩
namespace DiskAt
variable {w w':World} {base d:Nat} {F l:List Nat} {D:PDisk}
theorem keep (h:DiskAt w base d F D) (hk:Keep l w w') (ha:Apart F l):DiskAt w' base d F D:=by
 obtain⟨S,N,H,U,h⟩:=h;exact⟨S,N,H,U,h.keep hk ha⟩
theorem keep0 (h:DiskAt w base d F D) (hk:Keep [] w w'):DiskAt w' base d F D:=h.keep hk Apart.nil_right
theorem lt (h:DiskAt w base d F D):∀ x∈F,x<w.heap.size:=by obtain⟨S,N,H,U,h⟩:=h;exact h.lt
theorem ge (h:DiskAt w base d F D):∀ x∈F,base≤x:=by obtain⟨S,N,H,U,h⟩:=h;exact h.ge
end DiskAt
def PDisk.act (D:PDisk):PDisk:={ D with acts:=D.acts+1 }
def PDisk.write (D:PDisk) (at_:Nat) (b:List UInt8):PDisk:={ D with acts:=D.acts+1,held:=D.held++[(at_,b)],now:=laid D.now (at_*64) b }
theorem VAs (w:World) (base d:Nat) (S N H U:Value) (F:List Nat) (D:PDisk) (h:DiskIs w base d S N H U F D) (hoff:D.off=false) (hfuse:D.fuse = -1) (ha:D.acts≤1000000000) :
 Calls Tryz.prog 187 #[.pointer (some ⟨d,0,none⟩)] w fun e w'=>e=.returned (.int .i64 0)∧DiskIs w' base d S N H U F D.act∧Keep [d] w w':=by
 obtain⟨c0,c1,c2,c3,c4,c5,c6⟩:=XH h.blk
 have q4:=h.blk.frozen 4
 have q5:=h.blk.frozen 5
 have q6:=h.blk.frozen 6
 have hk:Keep [d] w (((w.setCell ⟨d,5,none⟩ (.int .i64 (D.acts+1:Nat))).setCell ⟨d,6,none⟩ (.bool false)).setCell ⟨d,4,none⟩ (.int .i64 (-1))):=
  (((Keep.refl [d] w).setCell (p:=⟨d,5,none⟩) (.inl (by simp)) _).setCell (p:=⟨d,6,none⟩) (.inl (by simp)) _).setCell (p:=⟨d,4,none⟩) (.inl (by simp)) _
 have hb:=((h.blk.set 5 (.int .i64 (D.acts+1:Nat))).set 6 (.bool false)).set 4 (.int .i64 (-1))
 have hres:DiskIs (((w.setCell ⟨d,5,none⟩ (.int .i64 (D.acts+1:Nat))).setCell ⟨d,6,none⟩ (.bool false)).setCell ⟨d,4,none⟩ (.int .i64 (-1))) base d S N H U F D.act:=
  ⟨by simpa [PDisk.act,hoff,hfuse] using hb,KA h.safe hk (fun g hg=>by simp;rintro rfl;exact h.dS (by simpa using hg)),KA h.now hk (fun g hg=>by simp;rintro rfl;exact h.dN (by simpa using hg)),
    KA h.held hk (fun g hg=>by simp;rintro rfl;exact h.dH (by simpa using hg)),KA h.flt hk (fun g hg=>by simp;rintro rfl;exact h.dU (by simpa using hg)),h.ne,h.foot,h.base,h.pos,h.few,h.ats,Nat.le_succ_of_le h.acts⟩
 rw[hoff] at c6
 rw[hfuse] at c4
 clear hb h hoff hfuse
 go_enter Tryz.func187,Tryz.ntmps187
 go_wp2
 go_ret
 exact⟨rfl,by simpa using hres,by simpa using hk⟩
theorem YAV (w:World) (base d:Nat) (S N H U:Value) (F:List Nat) (D:PDisk) (h:DiskIs w base d S N H U F D) (k:Nat) (hk:k<D.n) :
 Calls Tryz.prog 113 #[.pointer (some ⟨d,0,none⟩),.int .i64 (k:Nat)] w fun e w'=>e=.returned (.bool true)∧w=w':=by
 obtain⟨g,nc,rfl,hnc,hc63⟩:=QD h.now h.pos
 obtain⟨c0,c1,c2,c3,c4,c5,c6⟩:=XH h.blk
 have hkI:((k:Nat):Int)<(D.n:Nat):=by omega
 go_enter Tryz.func113,Tryz.ntmps113
 go_wp2
 go_ret
 exact⟨rfl,rfl⟩
end
section
open Go.RowKit
def pgs (B:Nat):Nat:=(B+14) / 15
structure GeomAt (w:World) (g B:Nat):Prop where
 blk:Blk w g 138 #[.int .i64 B,.int .i64 8,.int .i64 24]
 pos:1≤B
 few:B≤64
namespace GeomAt
variable {w w':World} {g B:Nat} {l:List Nat}
theorem keep (h:GeomAt w g B) (hk:Keep l w w') (hg:g∉l):GeomAt w' g B:=⟨h.blk.keep hk hg,h.pos,h.few⟩
theorem keep0 (h:GeomAt w g B) (hk:Keep [] w w'):GeomAt w' g B:=h.keep hk (by simp)
theorem lt (h:GeomAt w g B):g<w.heap.size:=h.blk.lt
theorem cells (h:GeomAt w g B):w.cell? ⟨g,0,none⟩=some (.int .i64 B)∧w.cell? ⟨g,1,none⟩=some (.int .i64 8)∧w.cell? ⟨g,2,none⟩=some (.int .i64 24):=
 ⟨by simpa using h.blk.cell 0,by simpa using h.blk.cell 1,by simpa using h.blk.cell 2⟩
end GeomAt
theorem KC {B:Nat} (h1:1≤B) (h2:B≤64):1≤pgs B∧pgs B≤5:=by unfold pgs;omega
theorem KG (n lo hi:Int) (w:World):Calls Tryz.prog 76 #[.int .i64 n,.int .i64 lo,.int .i64 hi] w fun e w'=>e=.returned (.bool (decide (lo≤n∧n≤hi)))∧w=w':=by
 by_cases h1:lo≤n
 · by_cases h2:n≤hi
   all_goals
    go_enter Tryz.func76,Tryz.ntmps76
    go_wp2
    go_ret
    exact⟨by simp[h1,h2],rfl⟩
 · go_enter Tryz.func76,Tryz.ntmps76
   go_wp2
   go_ret
   exact⟨by simp;omega,rfl⟩
theorem Ym (w:World) (g B:Nat) (h:GeomAt w g B) (s:Int):Calls Tryz.prog 112 #[.pointer (some ⟨g,0,none⟩),.int .i64 s] w fun e w'=>e=.returned (.bool (decide (0≤s∧s≤7)))∧w=w':=by
 obtain⟨c0,c1,c2⟩:=h.cells
 have hT:=KG s 0 7 w
 go_enter Tryz.func112,Tryz.ntmps112
 go_wp2_with (refine hT.mono ?_;clear hT;rintro e w' ⟨rfl,rfl⟩)
 go_ret
 exact⟨XK (by simp),rfl⟩
section
variable (w:World) (g B:Nat) (h:GeomAt w g B)
include h
theorem ConfigG_is:Calls Tryz.prog 93 #[.pointer (some ⟨g,0,none⟩)] w fun e w'=>e=.returned (.agg #[.int .i64 B,.int .i64 8,.int .i64 24])∧Keep [] w w':=by
 obtain⟨c0,c1,c2⟩:=h.cells
 have hl:=h.lt
 go_enter Tryz.func93,Tryz.ntmps93
 go_wp2
 exact bodyPost_ret (v:=.agg #[.int .i64 B,.int .i64 8,.int .i64 24]) (by simp[results,Tryz.results93,go_sem]) rfl ⟨rfl,(Keep.refl _ _).alloc _⟩
theorem PagesG_is:Calls Tryz.prog 151 #[.pointer (some ⟨g,0,none⟩)] w fun e w'=>e=.returned (.int .i64 (pgs B:Nat))∧Keep [] w w':=by
 have hT:=ConfigG_is w g B h
 have hp:=h.pos
 have hf:=h.few
 have hfd:=fun W=>VF Tryz.underlying27 0 rfl Tryz.isAgg3 #[.int .i64 B,.int .i64 8,.int .i64 24] rfl W
 have hU:∀ W,Calls Tryz.prog 250 #[.int .i64 B,.int .i64 15] W fun e w'=>e=.returned (.int .i64 (pgs B:Nat))∧W=w':=fun W=>by
  go_enter Tryz.func250,Tryz.ntmps250
  go_wp2
  go_ret
  exact⟨VI (by unfold pgs;omega),rfl⟩
 go_enter Tryz.func151,Tryz.ntmps151
 go_wp2_with (first | (go_at_call 93;refine hT.mono ?_;rintro e w' ⟨rfl,hk⟩) | (go_at_call 250;refine(hU _).mono ?_;clear hU;rintro e w'' ⟨rfl,rfl⟩))
 go_ret
 exact⟨rfl,hk⟩
theorem RegionLenG_is:Calls Tryz.prog 150 #[.pointer (some ⟨g,0,none⟩)] w fun e w'=>e=.returned (.int .i64 2)∧w=w':=by
 obtain⟨c0,c1,c2⟩:=h.cells
 go_enter Tryz.func150,Tryz.ntmps150
 go_wp2
 go_ret
 exact⟨rfl,rfl⟩
theorem segsG_is:Calls Tryz.prog 77 #[.pointer (some ⟨g,0,none⟩)] w fun e w'=>e=.returned (.int .i64 ((6+4*pgs B:Nat)))∧Keep [] w w':=by
 have hT:=RegionLenG_is w g B h
 have hP:=PagesG_is w g B h
 have hb:=(KC h.pos h.few).2
 go_enter Tryz.func77,Tryz.ntmps77
 go_wp2_with (first | (refine hT.mono ?_;clear hT;rintro e w' ⟨rfl,rfl⟩) | (refine hP.mono ?_;clear hP;rintro e w'' ⟨rfl,hk⟩))
 go_ret
 exact⟨VI (by omega),hk⟩
theorem SectorsG_is:Calls Tryz.prog 78 #[.pointer (some ⟨g,0,none⟩)] w fun e w'=>e=.returned (.int .i64 ((198+4*pgs B:Nat)))∧Keep [] w w':=by
 have hT:=segsG_is _ g B (h.keep0 (Keep.refl _ _).drew)
 have hb:=(KC h.pos h.few).2
 obtain⟨c0,c1,c2⟩:=h.cells
 go_enter Tryz.func78,Tryz.ntmps78
 go_wp2_with fail
 refine ZT (fun w'=>w'.cell? ⟨g,1,none⟩=some (.int .i64 8)∧w'.cell? ⟨g,2,none⟩=some (.int .i64 24)) 13 [[0,2,3,4,5,6,7,8,9,10,11,12],[1]] ⟨c1,c2⟩ ?_
 simp only[PI]
 iterate 12 (refine ZH ?_;simp only[Act.put,PU])
 refine XB (by rfl) (fun K hK=>?_)
 go_wp2_with (refine hT.mono ?_;clear hT;rintro e w1 ⟨rfl,hk⟩)
 replace hk:=(Keep.refl [] w).drew.trans0 hk
 refine hK _ _ (⟨(h.keep0 hk).cells.2.1,(h.keep0 hk).cells.2.2⟩) ?_
 clear hK K
 try simp only[Act.put,PU]
 refine JB ?_
 go_wp2_with fail
 go_ret
 exact⟨VI (by omega),hk⟩
omit h in
theorem Xy (s:Nat) (hs:s≤1):Calls Tryz.prog 225 #[.pointer (some ⟨g,0,none⟩),.int .i64 (s:Nat)] w fun e w'=>e=.returned (.int .i64 (s:Nat))∧w=w':=by
 have hT:=KG s 0 1 w
 rw[decide_eq_true (by omega)] at hT
 go_enter Tryz.func225,Tryz.ntmps225
 go_wp2_with (refine hT.mono ?_;clear hT;rintro e w' ⟨rfl,rfl⟩)
 go_ret
 exact⟨rfl,rfl⟩
theorem Yq (s:Nat) (hs:s≤1):Calls Tryz.prog 190 #[.pointer (some ⟨g,0,none⟩),.int .i64 (s:Nat)] w fun e w'=>e=.returned (.int .i64 ((2+2*s:Nat)))∧w=w':=by
 have hT:=KG s 0 1 w
 have hR:=RegionLenG_is w g B h
 rw[decide_eq_true (by omega)] at hT
 go_enter Tryz.func190,Tryz.ntmps190
 go_wp2_with (first | (refine hT.mono ?_;clear hT;rintro e w' ⟨rfl,rfl⟩) | (refine hR.mono ?_;clear hR;rintro e w'' ⟨rfl,rfl⟩))
 go_ret
 exact⟨VI (by omega),rfl⟩
theorem VQ (s:Nat) (hs:s≤7):Calls Tryz.prog 40 #[.pointer (some ⟨g,0,none⟩),.int .i64 (s:Nat)] w fun e w'=>e=.returned (.int .i64 ((6+4*pgs B+24*s:Nat)))∧Keep [] w w':=by
 have hH:=Ym w g B h s
 rw[decide_eq_true (by omega)] at hH
 have hT:=segsG_is _ g B (h.keep0 (Keep.refl _ _).drew)
 have hb:=(KC h.pos h.few).2
 obtain⟨c0,c1,c2⟩:=h.cells
 go_enter Tryz.func40,Tryz.ntmps40
 go_wp2_with (refine hH.mono ?_;clear hH;rintro e w' ⟨rfl,rfl⟩)
 refine ZT (fun w'=>w'.cell? ⟨g,2,none⟩=some (.int .i64 24)) 9 [[0,2,3,4,5,6,7,8],[1]] c2 ?_
 simp only[PI]
 iterate 8 (refine ZH ?_;simp only[Act.put,PU])
 refine XB (by rfl) (fun K hK=>?_)
 go_wp2_with (refine hT.mono ?_;clear hT;rintro e w1 ⟨rfl,hk⟩)
 replace hk:=(Keep.refl [] w).drew.trans0 hk
 refine hK _ _ ((h.keep0 hk).cells.2.2) ?_
 clear hK K
 try simp only[Act.put,PU]
 refine JB ?_
 go_wp2_with fail
 go_ret
 exact⟨VI (by omega),hk⟩
theorem VAr (over:Bool) (p s:Nat) (hs:s≤1) (hp:p<pgs B):Calls Tryz.prog 186 #[.pointer (some ⟨g,0,none⟩),.bool over,.int .i64 (p:Nat),.int .i64 (s:Nat)] w fun e w'=>e=.returned (.int .i64 ((6+2*(p+(if over then pgs B else 0))+s:Nat)))∧Keep [] w w':=by
 have hT1:=fun W=>KG s 0 1 W
 rw[decide_eq_true (by omega)] at hT1
 have hT2:=fun W=>KG p 0 ((pgs B:Nat)-1) W
 rw[decide_eq_true (by omega)] at hT2
 have hR:=fun W (hk:Keep [] w W)=>RegionLenG_is W g B (h.keep0 hk)
 have hP:=fun W (hk:Keep [] w W)=>PagesG_is W g B (h.keep0 hk)
 have hb:=(KC h.pos h.few).2
 have hk0:=Keep.refl [] w
 cases over
 · go_enter Tryz.func186,Tryz.ntmps186
   go_wp2_with (first | (go_at_call 76;refine(hT1 _).mono ?_;clear hT1;rintro e w' ⟨rfl,rfl⟩) | (go_at_call 151;refine(hP _ hk0).mono ?_;rintro e w1 ⟨rfl,hk1⟩) | (go_at_call 76;refine(hT2 _).mono ?_;rintro e w' ⟨rfl,rfl⟩) | (go_at_call 150;refine(hR _ hk1).mono ?_;rintro e w' ⟨rfl,rfl⟩))
   go_ret
   exact⟨VI (by simp;omega),hk1⟩
 · go_enter Tryz.func186,Tryz.ntmps186
   go_wp2_with (first | (go_at_call 76;refine(hT1 _).mono ?_;clear hT1;rintro e w' ⟨rfl,rfl⟩) | (go_at_call 151;refine(hP _ hk0).mono ?_;clear hk0;rintro e w1 ⟨rfl,hk1⟩) | (go_at_call 151;refine(hP _ hk1).mono ?_;rintro e w2 ⟨rfl,hk2⟩) | (go_at_call 76;refine(hT2 _).mono ?_;rintro e w' ⟨rfl,rfl⟩) | (go_at_call 150;refine(hR _ (hk1.trans0 hk2)).mono ?_;rintro e w' ⟨rfl,rfl⟩))
   go_ret
   exact⟨VI (by simp;omega),hk1.trans0 hk2⟩
end
end
section
open Go.RowKit
theorem QAE (w:World) (B:Nat) (h1:1≤B) (h2:B≤64) :
 Calls Tryz.prog 38 #[.agg #[.int .i64 B,.int .i64 8,.int .i64 24]] w fun e w'=>∃ g,e=.returned (.tuple #[.pointer (some ⟨g,0,none⟩),.int .i64 0])∧GeomAt w' g B∧w.heap.size≤g∧Keep [] w w':=by
 have hB1:(1:Int)≤(B:Nat):=by omega
 have hB2:((B:Nat):Int)≤64:=by omega
 have hT1:=fun W=>KG B 1 64 W
 rw[decide_eq_true (by omega)] at hT1
 have hT2:=fun W=>KG 8 8 32 W
 rw[decide_eq_true (by omega)] at hT2
 have hT3:=fun W=>KG 24 24 64 W
 rw[decide_eq_true (by omega)] at hT3
 go_enter Tryz.func38,Tryz.ntmps38
 go_wp2_with (first | (refine(hT1 _).mono ?_;clear hT1;rintro e w' ⟨rfl,rfl⟩) | (refine(hT2 _).mono ?_;clear hT2;rintro e w' ⟨rfl,rfl⟩) | (refine(hT3 _).mono ?_;clear hT3;rintro e w' ⟨rfl,rfl⟩))
 go_ret2
 exact⟨_,rfl,⟨by have:=Blk.new (w.alloc (.cells #[.int .i64 B,.int .i64 8,.int .i64 24] 27)) 138 #[.int .i64 B,.int .i64 8,.int .i64 24];simpa using this,h1,h2⟩,by simp,((Keep.refl _ _).alloc _).alloc _⟩
structure PPos where
 seg:Nat
 off:Nat
 lsn:Nat
 prev:Nat
 mount:Nat
def PPos.May (p:PPos):Prop:=p.seg≤7∧p.off≤23∧(1≤p.lsn∧p.lsn≤2147483647)∧p.prev≤4294967295∧(1≤p.mount∧p.mount≤2147483647)
def PPos.cs (p:PPos):List Value:=[.int .i64 p.seg,.int .i64 p.off,.int .i64 p.lsn,.int .i64 p.prev,.int .i64 p.mount]
theorem QAJ (w:World) (g B:Nat) (h:GeomAt w g B) (p:PPos) (hp:p.May) :
 Calls Tryz.prog 231 #[.pointer (some ⟨g,0,none⟩),.agg p.cs.toArray] w fun e w'=>e=.returned (.bool true)∧Keep [] w w':=by
 obtain⟨seg,off,lsn,prev,mount⟩:=p
 obtain⟨h1,h2,⟨h3,h4⟩,h5,h6,h7⟩:=hp
 simp only at h1 h2 h3 h4 h5 h6 h7
 have hH:=fun W (hk:Keep [] w W)=>Ym W g B (h.keep0 hk) seg
 rw[decide_eq_true (by omega)] at hH
 have hT1:=fun W=>KG off 0 23 W
 rw[decide_eq_true (by omega)] at hT1
 have hT2:=fun W=>KG lsn 1 2147483647 W
 rw[decide_eq_true (by omega)] at hT2
 have hT3:=fun W=>KG mount 1 2147483647 W
 rw[decide_eq_true (by omega)] at hT3
 have hT4:=fun W=>KG prev 0 4294967295 W
 rw[decide_eq_true (by omega)] at hT4
 simp only[PPos.cs]
 have hl:=h.lt
 obtain⟨c0,c1,c2⟩:=h.cells
 go_enter Tryz.func231,Tryz.ntmps231
 go_wp2_with fail
 have hbx:=(Blk.new w 72 #[.int .i64 seg,.int .i64 off,.int .i64 lsn,.int .i64 prev,.int .i64 mount]).drew
 have hkx:Keep [] w (w.alloc (.cells #[.int .i64 seg,.int .i64 off,.int .i64 lsn,.int .i64 prev,.int .i64 mount] 72)).drew:=((Keep.refl _ _).alloc _).drew
 have hg:=(h.keep0 hkx).cells.2.2
 have e0:=(hbx.cell 0).trans (show _=some (Value.int .i64 seg) from rfl)
 have e1:=(hbx.cell 1).trans (show _=some (Value.int .i64 off) from rfl)
 have e2:=(hbx.cell 2).trans (show _=some (Value.int .i64 lsn) from rfl)
 have e3:=(hbx.cell 3).trans (show _=some (Value.int .i64 prev) from rfl)
 have e4:=(hbx.cell 4).trans (show _=some (Value.int .i64 mount) from rfl)
 clear c0 c1 c2
 refine ZT (fun w'=>w'.cell? ⟨w.heap.size,0,none⟩=some (.int .i64 seg)∧w'.cell? ⟨w.heap.size,1,none⟩=some (.int .i64 off)∧w'.cell? ⟨g,2,none⟩=some (.int .i64 24)) 13 [[0,1,2],[3,4,5,6,7,8,9,10,11,12]] ⟨e0,e1,hg⟩ ?_
 simp only[PI]
 iterate 3 (refine ZH ?_;simp only[Act.put,PU])
 refine XB (by rfl) (fun K hK=>?_)
 go_wp2_with (refine(hH _ hkx).mono ?_;rintro e w' ⟨rfl,rfl⟩)
 refine hK _ _ (⟨e0,e1,hg⟩) ?_
 clear hK K
 try simp only[Act.put,PU]
 iterate 9 (refine ZH ?_;simp only[Act.put,PU])
 refine JB ?_
 go_wp2_with (first | (refine(hT1 _).mono ?_;clear hT1;rintro e w' ⟨rfl,rfl⟩) | (refine(hT2 _).mono ?_;clear hT2;rintro e w' ⟨rfl,rfl⟩) | (refine(hT3 _).mono ?_;clear hT3;rintro e w' ⟨rfl,rfl⟩) | (refine(hT4 _).mono ?_;clear hT4;rintro e w' ⟨rfl,rfl⟩))
 go_ret
 exact⟨rfl,hkx⟩
theorem ZY (w:World) (g B:Nat) (h:GeomAt w g B) (at_:Nat) (h1:6+4*pgs B≤at_) (h2:at_<198+4*pgs B) :
 Calls Tryz.prog 21 #[.pointer (some ⟨g,0,none⟩),.int .i64 (at_:Nat)] w fun e w'=>e=.returned (.tuple #[.int .i64 (((at_-(6+4*pgs B)) / 24:Nat)),.int .i64 (((at_-(6+4*pgs B)) % 24:Nat)),.bool true])∧Keep [] w w':=by
 have hS:=fun W (hk:Keep [] w W)=>segsG_is W g B (h.keep0 hk)
 have hN:=fun W (hk:Keep [] w W)=>SectorsG_is W g B (h.keep0 hk)
 have hb:=(KC h.pos h.few).2
 have hT:=fun W=>KG at_ ((6+4*pgs B:Nat)) ((198+4*pgs B:Nat)-1) W
 rw[decide_eq_true (by omega)] at hT
 have hk0:=Keep.refl [] w
 obtain⟨s,hs⟩:∃ s,s=6+4*pgs B:=⟨_,rfl⟩
 obtain⟨k,hk⟩:∃ k,at_=s+k:=⟨at_-s,by omega⟩
 have hk192:k<192:=by omega
 have hs26:s≤26:=by omega
 subst hk
 rw[← hs] at hS hT ⊢
 rw[Nat.add_sub_cancel_left]
 have HS:=ZB hs
 clear hs h1 h2
 go_enter Tryz.func21,Tryz.ntmps21
 go_wp2_with (first
  | (go_at_call 77;refine(hS _ hk0).mono ?_;clear hk0;rintro e w1 ⟨rfl,hk1⟩)
  | (go_at_call 78;refine(hN _ hk1).mono ?_;rintro e w2 ⟨rfl,hk2⟩;replace hk2:=hk1.trans0 hk2)
  | (go_at_call 76;refine(hT _).mono ?_;rintro e w' ⟨rfl,rfl⟩)
  | (go_at_call 77;refine(hS _ hk2).mono ?_;rintro e w3 ⟨rfl,hk3⟩;replace hk3:=hk2.trans0 hk3))
 have hc:=(h.keep0 hk3).cells.2.2
 refine ZT (fun w'=>w'.cell? ⟨g,2,none⟩=some (.int .i64 24)) 15 [[0,1,2,3,4,5,6,7,8,9,10,11,12,13,14]] hc ?_
 simp only[PI]
 iterate 15 (refine ZH ?_;simp only[Act.put,PU])
 refine JB ?_
 go_wp2_with fail
 have q1:IntKind.i64.wrap (((s:Nat)+(k:Nat)-(s:Nat):Int).tdiv 24)=(k / 24:Nat):=by
  rw[show ((s:Nat)+(k:Nat)-(s:Nat):Int)=(k:Nat) by omega,Int.tdiv_eq_ediv_of_nonneg (by omega),IntKind.wrap_i64];omega
 have q2:((s:Nat)+(k:Nat)-(s:Nat):Int).tmod 24=(k % 24:Nat):=by
  rw[show ((s:Nat)+(k:Nat)-(s:Nat):Int)=(k:Nat) by omega,Int.tmod_eq_emod_of_nonneg (by omega)];omega
 rw[q1,q2]
 exact bodyPost_ret (v:=.tuple #[.int .i64 (k / 24:Nat),.int .i64 (k % 24:Nat),.bool true]) (by simp[results,Tryz.results21,go_sem]) rfl ⟨rfl,hk3.drew⟩
theorem VAd (w:World) (g B:Nat) (h:GeomAt w g B) :
 Calls Tryz.prog 21 #[.pointer (some ⟨g,0,none⟩),.int .i64 0] w fun e w'=>e=.returned (.tuple #[.int .i64 0,.int .i64 0,.bool false])∧Keep [] w w':=by
 have hS:=segsG_is w g B h
 have hN:=fun W (hk:Keep [] w W)=>SectorsG_is W g B (h.keep0 hk)
 have hb:=(KC h.pos h.few).2
 have hT:=fun W=>KG 0 ((6+4*pgs B:Nat)) ((198+4*pgs B:Nat)-1) W
 rw[decide_eq_false (by omega)] at hT
 go_enter Tryz.func21,Tryz.ntmps21
 go_wp2_with (first
  | (go_at_call 77;refine hS.mono ?_;rintro e w1 ⟨rfl,hk1⟩)
  | (go_at_call 78;refine(hN _ hk1).mono ?_;rintro e w2 ⟨rfl,hk2⟩;replace hk2:=hk1.trans0 hk2)
  | (go_at_call 76;refine(hT _).mono ?_;rintro e w' ⟨rfl,rfl⟩))
 exact bodyPost_ret (v:=.tuple #[.int .i64 0,.int .i64 0,.bool false]) (by simp[results,Tryz.results21,go_sem]) rfl ⟨rfl,hk2⟩
end
section
open Go.RowKit
section
variable {α:Type} {f:α→List Value} {s:Nat}
theorem KAD (hf:∀ x,(f x).length=s) (l:List α):(l.flatMap f).length=l.length*s:=by
 induction l with
 | nil=>simp
 | cons x l ih=>rw[List.flatMap_cons,List.length_append,ih,hf,List.length_cons,Nat.succ_mul];omega
theorem Yz (hf:∀ x,(f x).length=s) (l:List α) (i:Nat):(l.flatMap f).drop (i*s)=(l.drop i).flatMap f:=by
 induction i generalizing l with
 | zero=>simp
 | succ i ih=>
   cases l with
   | nil=>simp
   | cons x l=>rw[List.flatMap_cons,List.drop_succ_cons,← ih,Nat.succ_mul,List.drop_append,List.drop_of_length_le (by rw[hf];omega),hf,List.nil_append];congr 1;omega
theorem KAh (hf:∀ x,(f x).length=s) (l:List α) (i:Nat):(l.flatMap f).take (i*s)=(l.take i).flatMap f:=by
 induction i generalizing l with
 | zero=>simp
 | succ i ih=>
   cases l with
   | nil=>simp
   | cons x l=>rw[List.flatMap_cons,List.take_succ_cons,List.flatMap_cons,← ih,Nat.succ_mul,List.take_append,List.take_of_length_le (by rw[hf];omega),hf];congr 2;omega
theorem VO (hf:∀ x,(f x).length=s) (l:List α) (i j:Nat) (hi:i<l.length) (hj:j<s):(l.flatMap f)[i*s+j]? = (f l[i])[j]? := by
 have h1:=Yz hf l i
 have h2:((l.flatMap f).drop (i*s))[j]? = (l.flatMap f)[i*s+j]? := List.getElem?_drop
 rw[← h2,h1,List.drop_eq_getElem_cons hi,List.flatMap_cons,List.getElem?_append_left (by rw[hf];exact hj)]
theorem YAb (hf:∀ x,(f x).length=s) (l:List α) (i:Nat) (hi:i<l.length) (y:α):laid (l.flatMap f) (i*s) (f y)=(l.set i y).flatMap f:=by
 unfold laid
 rw[hf,show i*s+s=(i+1)*s by rw[Nat.succ_mul],Yz hf,KAh hf,List.set_eq_take_append_cons_drop,if_pos hi]
 simp
theorem YAm (hf:∀ x,(f x).length=s) (l:List α) (i j:Nat) (hi:i<l.length) (hj:j<s) (u:Value) (y:α) (hy:(f l[i]).set j u=f y):(l.flatMap f).set (i*s+j) u=(l.set i y).flatMap f:=by
 rw[← YAb hf l i hi,← hy]
 have hl:=KAD hf l
 have hlt:(i+1)*s≤l.length*s:=Nat.mul_le_mul_right _ hi
 rw[Nat.succ_mul] at hlt
 have hfl:=hf l[i]
 apply List.ext_getElem?
 intro k
 rw[List.getElem?_set]
 have hlaid:(laid (l.flatMap f) (i*s) ((f l[i]).set j u))[k]? = if k<i*s then (l.flatMap f)[k]? else if k<i*s+s then ((f l[i]).set j u)[k-i*s]? else (l.flatMap f)[k]? := by
  unfold laid
  rw[List.length_set,hfl,List.append_assoc]
  by_cases h1:k<i*s
  · rw[List.getElem?_append_left (by rw[List.length_take];omega),List.getElem?_take,if_pos h1,if_pos h1]
  · rw[List.getElem?_append_right (by rw[List.length_take];omega),if_neg h1,List.length_take,Nat.min_eq_left (by omega)]
    by_cases h2:k<i*s+s
    · rw[List.getElem?_append_left (by rw[List.length_set];omega),if_pos h2]
    · rw[List.getElem?_append_right (by rw[List.length_set];omega),if_neg h2,List.length_set,hfl,List.getElem?_drop]
      congr 1;omega
 rw[hlaid]
 by_cases h1:i*s+j=k
 · subst h1
   rw[if_pos rfl,if_pos (by omega),if_neg (by omega),if_pos (by omega),show i*s+j-i*s=j by omega,List.getElem?_set,if_pos rfl,if_pos (by omega)]
 · rw[if_neg h1]
   by_cases h2:k<i*s
   · rw[if_pos h2]
   · rw[if_neg h2]
     by_cases h3:k<i*s+s
     · rw[if_pos h3,List.getElem?_set,if_neg (by omega)]
       have:=VO hf l i (k-i*s) hi (by omega)
       rw[show i*s+(k-i*s)=k by omega] at this
       exact this
     · rw[if_neg h3]
end
section
variable {w:World} {base g n c s:Nat} {e:TypeId} {xs:List Value}
theorem XE (h:w.ownsRow base e s (.slice (some ⟨g,0,none⟩) n c) n xs) {k:Nat} {u:Value} (hu:xs[k]? = some u):w.cell? ⟨g,k,none⟩=some u:=by
 rcases h.2 with⟨he,_⟩ | ⟨g',cap,cur,he,hb,hg,hn,hm,hs,ht⟩
 · cases he
 · cases he
   rw[Blk.cell (t:=e) hg]
   rw[← ht,List.getElem?_take] at hu
   split at hu
   · simpa using hu
   · cases hu
theorem KS (h:w.ownsRow base e s (.slice (some ⟨g,0,none⟩) n c) n xs) (i:Nat):w.frozen? ⟨g,i,none⟩=false:=by
 rcases h.2 with⟨he,_⟩ | ⟨g',cap,cur,he,hb,hg,hn,hm,hs,ht⟩
 · cases he
 · cases he
   exact Blk.frozen (t:=e) hg i
theorem Xt (h:w.ownsRow base e s (.slice (some ⟨g,0,none⟩) n c) n xs) (i:Nat) (u:Value):(w.setCell ⟨g,i,none⟩ u).ownsRow base e s (.slice (some ⟨g,0,none⟩) n c) n (xs.set i u):=by
 have hx:=h.1
 rcases h.2 with⟨he,_⟩ | ⟨g',cap,cur,he,hb,hg,hn,hm,hs,ht⟩
 · cases he
 · cases he
   refine⟨by rw[List.length_set];exact hx,.inr ⟨g,c,_,rfl,hb,Blk.set (t:=e) hg i u,hn,hm,by simpa using hs,?_⟩⟩
   rw[Array.toList_setIfInBounds,List.take_set,ht]
theorem Vw (h:w.ownsRow base e s (.slice (some ⟨g,0,none⟩) n c) n xs):g<w.heap.size:=(h.lt g rfl).2
end
end
section
open Go.RowKit
theorem ElemN.wp_make {P:Program} {t e:TypeId} {z:Value} {s bytes:Nat} (E:ElemN P t e z s bytes) {w:World} {ops:Array Oper} {rest:List Oper} {o:Oper} {a:Act} {Q:Exit→Act→World→Prop} (hgd:o.guard=none)
 (l c:Operand) (hop:o.op=Op.makeSlice t l c) (kl kc:IntKind) (n:Nat) (hl:a.eval l=.int kl n) (hc:a.eval c=.int kc n) (hb:bytes*n≤281474976710656) (h63:n≤9223372036854775807)
 (h:∀ w' g,g=w.heap.size→w'.heap.size=g+1→Blk w' g e (madeCells z.cells (n*s))→Keep [] w w'→wpList P ops Q rest (a.put o.dst (.slice (some ⟨g,0,none⟩) n n)) w'):wpList P ops Q (o :: rest) a w:=
 wpList_plain hgd fun _ hK=>E.wp1_make l c hop kl kc n hl hc hb h63 fun w' g h1 h2 h3 h4=>hK _ _ (h w' g h1 h2 h3 h4)
end
end Go.Proofs.YthgphmfipnjllaaGreat
