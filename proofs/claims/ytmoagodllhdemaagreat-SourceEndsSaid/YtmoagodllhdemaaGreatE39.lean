/-
  A part of the proof: lemmas, and contracts of functions; their conditions stand in them.
-/
import Derived.Test.YtmoagodllhdemaaGreatE12
import Derived.Test.YtmoagodllhdemaaGreatE20
import Derived.Shelf.RegionOpen
import Derived.OwnWalkIn
import Derived.TacticsInMore
import Derived.LoopNIn
import Derived.LoopIn
namespace Go.Proofs.YtmoagodllhdemaaGreat
set_option linter.unusedSimpArgs false
set_option linter.unusedVariables false
set_option maxHeartbeats 1000000
section
open Go.RowKit Go.Shelf
attribute [local go_sem] Oper.semAt_some
def JAm (n₀ s:Nat) (L:Value) (os:List (Value×POp)):Prop:=s<n₀∧(∀ g∈L.ownBlock.toList,g<n₀)∧∀ p∈os,∀ g∈p.1.ownBlock.toList,g<n₀
theorem Src.under {w0 w:World} {s view size epoch seq acked done:Nat} {L:Value} {os:List (Value×POp)} (h:Src w0 w s view size epoch seq acked done L os):JAm w.heap.size s L os:=
 ⟨h.lt,fun g hg=>(own_mem h.row hg).2,fun p hp g hg=>(own_mem (h.data p hp) hg).2⟩
theorem Ju {w w':World} {n₀ base:Nat} {e:TypeId} {v:Value} {n s:Nat} {xs:List Value} (h:w.ownsRow base e s v n xs) (hb:Below n₀ w w') (hv:∀ g∈v.ownBlock.toList,g<n₀):w'.ownsRow base e s v n xs:=by
 refine ⟨h.1,?_⟩
 rcases h.2 with hv | ⟨g,cap,cur,rfl,hb',hg,r⟩
 · exact .inl hv
 · exact .inr ⟨g,cap,cur,rfl,hb',(hb.block g (hv g (by simp [Value.ownBlock]))).trans hg,r⟩
theorem Src.below {w0 w w':World} {n₀ s view size epoch seq acked done:Nat} {L:Value} {os:List (Value×POp)} (h:Src w0 w s view size epoch seq acked done L os) (hu:JAm n₀ s L os) (hn:w0.heap.size≤n₀) (hb:Below n₀ w w') :
 Src w0 w' s view size epoch seq acked done L os:=
 ⟨(hb.block s hu.1).trans h.blk,Ju h.row hb hu.2.1,fun p hp=>Ju (h.data p hp) hb (hu.2.2 p hp),h.small,h.new,
   ⟨hb.os.trans h.keep.os,hb.tape.trans h.keep.tape,hb.output.trans h.keep.output,Nat.le_trans h.keep.size hb.size,fun k hk hn'=>(hb.block k (by omega)).trans (h.keep.block k hk hn')⟩,h.len,h.few⟩
abbrev OpRnd:=Nat×(Option Addr×Nat)×POp
def VAx (x:OpRnd):Value := .slice x.2.1.1 x.2.2.d.length x.2.1.2
def ZAz (x:OpRnd):Value×POp:=(VAx x,x.2.2)
def JAP (x:OpRnd):Array Value:=#[.int .i64 (x.1:Nat),.agg #[.int .i64 x.2.2.k,.int .i64 x.2.2.b,.int .i64 x.2.2.c,.int .i64 x.2.2.e,.slice x.2.1.1 x.2.2.d.length x.2.1.2]]
def JAv (n₀ fr lim:Nat) (pre:List OpRnd) (x:OpRnd) (W:World):Prop:=x.1=fr+pre.length∧(pre.length<lim∧x.1≤1000001)∧x.2.2.d.length≤64∧W.ownsRow n₀ 5 1 (VAx x) x.2.2.d.length (bys x.2.2.d)
def XAQ (n₀ bc:Nat) (p:Value) (W W':World):Prop:=Below n₀ W W'∧(Boxed W bc 76 p→Boxed W' bc 76 p)
theorem QAu (n:Nat) (p:Value) (w:World) (hp:p.oneCell'=true) :
 CallsIn Fence.wide n Tryz.prog 89 #[p] w fun e w'=>e = .returned (.func (.func 156) #[] #[.pointer (some ⟨w.heap.size,0,none⟩)])∧w'=w.alloc (.cells #[p] 76):=by
 refine callsIn_of_wp Tryz.func89 rfl trivial ?_ rfl
 simp only [Tryz.ntmps89,List.size_toArray,List.length_cons,List.length_nil,Nat.reduceAdd,Nat.reduceSub,Array.replicate_succ,Array.replicate_zero,List.push_toArray,List.append_toArray,List.nil_append,List.cons_append]
 gi_wp2
 go_ret
 exact ⟨rfl,rfl⟩
end
section
open Go.RowKit Go.Shelf
attribute [local go_sem] Oper.semAt_some
theorem ElemN.wpIn_app {P:Program} {t e:TypeId} {z:Value} {s bytes:Nat} (E:ElemN P t e z s bytes) {F:Fence} {n':Nat} {w:World} {ops:Array Oper} {rest:List Oper} {o:Oper} {a:Act} {Q:Exit→Act→World→Prop} (hgd:o.guard=none) (sl x:Operand)
 (ho:o.op = .call { callee := .builtin .append,args:=#[sl,x],argTypes:=#[t,t] })
 (base:Nat) (v:Value) (n:Nat) (xs:List Value) (hs:a.eval sl=v) (hown:w.ownsRow base e s v n xs)
 (ad:Addr) (m c:Nat) (news:List Value) (hx:a.eval x = .slice (some ad) m c) (hr:Rd w (some ad) (m*s) news) (h1:∀ u∈news,u.oneCell'=true)
 (h63:n+m≤9223372036854775807) (hbytes:(n+m)*bytes≤140737488355328) (hbase:base≤w.heap.size)
 (h:∀ v' w',w'.ownsRow base e s v' (n+m) (xs++news)→Keep v.ownBlock.toList w w'→(v'.ownBlock=v.ownBlock∨v'.ownBlock=some w.heap.size)→wpListIn F n' P ops Q rest (a.put o.dst v') w'):wpListIn F n' P ops Q (o :: rest) a w:=by
 obtain ⟨v',w',hrun,h2,h3,h4,_⟩:=E.run_app w base o.type v n xs hown ad m c news hr h1 h63 hbytes hbase
 refine wpListIn_plain hgd fun K hK=>?_
 refine ⟨?_,?_⟩
 · simp [Oper.about,ho,resolve,Target.leads,Sem.run_pure]
 · rw [Oper.semAt_plain F _ _ (by rw [ho];intro c h;cases h)]
   simp only [execOp,ho,resolve,invoke,builtin,Sem.run_bind,Sem.run_pure,Result.andThen_ok,List.map_toArray,List.map_cons,List.map_nil,hs,hx,hrun]
   exact hK _ _ (h v' w' h2 h3 h4)
theorem Keep.fromCells {l:List Nat} {W W':World} (h:Keep l W W') (hl:∀ g∈l,∀ o,W.heap[g]? = some o→o.isCells=true) (B:Nat):KeepsFrom B W W':=
 ⟨h.size,fun k o _ hk ho=>(h.block k (Array.getElem?_eq_some_iff.1 hk).1 (fun hm=>by rw [hl k hm o hk] at ho;cases ho)).trans hk⟩
theorem own_cells {w:World} {base:Nat} {e:TypeId} {v:Value} {n s:Nat} {xs:List Value} (h:w.ownsRow base e s v n xs):∀ g∈v.ownBlock.toList,∀ o,w.heap[g]? = some o→o.isCells=true:=by
 intro g hg o ho
 rcases h.2 with ⟨rfl,_⟩ | ⟨g',cap,cur,rfl,_,hgb,_⟩
 · simp [Value.ownBlock] at hg
 · obtain rfl:g'=g:=by simpa [Value.ownBlock,eq_comm] using hg
   rw [hgb] at ho;cases ho;rfl
theorem boxed_keep {W W':World} {B:Nat} {t:TypeId} {v:Value} {l:List Nat} (h:Boxed W B t v) (hk:Keep l W W') (hB:B∉l):Boxed W' B t v:=(hk.block B h.lt hB).trans h
theorem boxed_putObj {W:World} {B l:Nat} {t:TypeId} {v:Value} {o:Obj} (o':Obj) (h:Boxed W B t v) (hl:W.heap[l]? = some o) (ho:o.isCells=false):Boxed (W.putObj l o') B t v:=by
 refine (World.putObj_heap_other ?_).trans h
 rintro rfl
 rw [show W.heap[B]? = _ from h] at hl;cases hl;cases ho
theorem Keep.putObj {l:List Nat} {w W:World} (h:Keep l w W) {g:Nat} (hg:w.heap.size≤g) (o':Obj):Keep l w (W.putObj g o'):=
 ⟨h.os,h.tape,h.output,by rw [World.putObj_size];exact h.size,fun k hk hn=>(World.putObj_heap_other (by omega)).trans (h.block k hk hn)⟩
structure KCol (w:World) (Bf B4 B5 B7 n₀ fr:Nat) (pre:List OpRnd) (W:World):Prop where
 out:∃ ov,Boxed W B7 38 ov∧W.ownsRow n₀ 46 5 ov pre.length ((pre.map ZAz).flatMap opc)
 own:∀ x∈pre,W.ownsRow n₀ 5 1 (VAx x) x.2.2.d.length (bys x.2.2.d)
 rf:Boxed W Bf 3 (.int .i64 (fr:Nat))
 r4:Boxed W B4 38 (.slice none 0 0)
 r5:Boxed W B5 4 (.bool false)
 keep:Keep [] w W
theorem KCol.kept {w A B:World} {Bf B4 B5 B7 n₀ fr:Nat} {pre:List OpRnd} (h:KCol w Bf B4 B5 B7 n₀ fr pre A) (hk:Keep [] A B):KCol w Bf B4 B5 B7 n₀ fr pre B:=by
 obtain ⟨ov,h1,h2⟩:=h.out
 exact ⟨⟨ov,boxed_keep h1 hk (by simp),XB h2 hk⟩,fun x hx=>XB (h.own x hx) hk,boxed_keep h.rf hk (by simp),boxed_keep h.r4 hk (by simp),boxed_keep h.r5 hk (by simp),h.keep.trans0 hk⟩
theorem KCol.turned {w W:World} {Bf B4 B5 B7 n₀ fr l:Nat} {pre:List OpRnd} {o o':Obj} (h:KCol w Bf B4 B5 B7 n₀ fr pre W) (hl:w.heap.size≤l) (hg:W.heap[l]? = some o) (ho:o.isCells=false):KCol w Bf B4 B5 B7 n₀ fr pre (W.putObj l o'):=by
 obtain ⟨ov,h1,h2⟩:=h.out
 exact ⟨⟨ov,boxed_putObj o' h1 hg ho,ownsRow_putObj h2 o' hg ho⟩,fun x hx=>ownsRow_putObj (h.own x hx) o' hg ho,boxed_putObj o' h.rf hg ho,boxed_putObj o' h.r4 hg ho,boxed_putObj o' h.r5 hg ho,h.keep.putObj hl o'⟩
end
end Go.Proofs.YtmoagodllhdemaaGreat
