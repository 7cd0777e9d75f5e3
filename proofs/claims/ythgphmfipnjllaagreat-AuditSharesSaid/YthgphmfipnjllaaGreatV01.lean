/- Lemmas of the proof, with their conditions. -/
import Derived.Test.YthgphmfipnjllaaGreatProg
import Derived.WalkSpells
import Derived.WalkLawsBesides
import Derived.BigQuiet
import Derived.Deep.RegionHeld3
import Derived.Deep.AppendLies
import Derived.Laws.CopyOwn
namespace Go.Proofs.YthgphmfipnjllaaGreat
set_option linter.unusedSimpArgs false
set_option linter.unusedVariables false
set_option maxHeartbeats 400000
section
open Go.RowKit
structure Keep (l:List Nat) (w w':World):Prop where
 os:w'.os=w.os
 tape:w'.tape=w.tape
 output:w'.output=w.output
 size:w.heap.size≤w'.heap.size
 block:∀ k,k<w.heap.size→k∉l→w'.heap[k]? = w.heap[k]?
namespace Keep
variable {l m:List Nat} {w w1 w2:World}
theorem refl (l:List Nat) (w:World):Keep l w w:=⟨rfl,rfl,rfl,Nat.le_refl _,fun _ _ _=>rfl⟩
theorem trans (h:Keep l w w1) (k:Keep m w1 w2) (hm:∀ x∈m,x∈l∨w.heap.size≤x):Keep l w w2:=
 ⟨k.os.trans h.os,k.tape.trans h.tape,k.output.trans h.output,Nat.le_trans h.size k.size,fun i hi hl=>
   (k.block i (Nat.lt_of_lt_of_le hi h.size) (fun hx=>(hm i hx).elim hl (by omega))).trans (h.block i hi hl)⟩
theorem trans0 (h:Keep l w w1) (k:Keep [] w1 w2):Keep l w w2:=h.trans k (fun _ hx=>by cases hx)
theorem mono (h:Keep l w w1) (hm:∀ x∈l,x∈m∨w.heap.size≤x):Keep m w w1:=
 ⟨h.os,h.tape,h.output,h.size,fun i hi hl=>h.block i hi (fun hx=>(hm i hx).elim hl (by omega))⟩
theorem zero (h:Keep [] w w1):Keep l w w1:=h.mono (fun _ hx=>by cases hx)
theorem drew (h:Keep l w w1):Keep l w w1.drew:=⟨h.os,h.tape,h.output,h.size,h.block⟩
theorem drewN (h:Keep l w w1) (n:Nat):Keep l w (w1.drewN n):=⟨h.os,h.tape,h.output,h.size,h.block⟩
theorem alloc (h:Keep l w w1) (o:Obj):Keep l w (w1.alloc o):=
 h.trans (m:=[]) ⟨rfl,rfl,rfl,by simp,fun k hk _=>Below.heap_alloc _ _ _ hk⟩ (fun _ hx=>by cases hx)
theorem setCell (h:Keep l w w1) {p:Addr} (hp:p.block∈l∨w.heap.size≤p.block) (u:Value):Keep l w (w1.setCell p u):=
 h.trans (m:=[p.block]) ⟨rfl,rfl,rfl,by simp,fun k _ hk=>Below.heap_setCell _ _ _ _ (fun e=>hk (by simp[e]))⟩ (fun x hx=>by
  have:x=p.block:=by simpa using hx
  subst this;exact hp)
theorem cell (h:Keep l w w1) {b:Nat} (hb:b<w.heap.size) (hl:b∉l) (o:Nat):w1.cell? ⟨b,o,none⟩=w.cell? ⟨b,o,none⟩:=
 World.cell?_of_block (w:=w) (h.block b hb hl)
theorem frozen (h:Keep l w w1) {b:Nat} (hb:b<w.heap.size) (hl:b∉l) (o:Nat):w1.frozen? ⟨b,o,none⟩=w.frozen? ⟨b,o,none⟩:=
 World.frozen?_of_block (w:=w) (h.block b hb hl)
theorem below (h:Keep [] w w1):Below w.heap.size w w1:=⟨h.os,h.tape,h.output,h.size,fun k hk=>h.block k hk (by simp)⟩
theorem ofGrown {row:Option Nat} (hg:w.grownBy w1 row):Keep row.toList w w1:=
 ⟨hg.os,hg.tape,hg.output,hg.size,fun k hk hn=>hg.block k hk (fun e=>hn (by simp[← e]))⟩
theorem lt (h:Keep l w w1) {b:Nat} (hb:b<w.heap.size):b<w1.heap.size:=Nat.lt_of_lt_of_le hb h.size
end Keep
def Blk (w:World) (g:Nat) (t:TypeId) (cs:Array Value):Prop:=w.heap[g]? = some (.cells cs t (0,0))
namespace Blk
variable {w w':World} {g:Nat} {t:TypeId} {cs:Array Value}
theorem lt (h:Blk w g t cs):g<w.heap.size:=by
 rcases Nat.lt_or_ge g w.heap.size with hlt | hge
 · exact hlt
 · unfold Blk at h;rw[Array.getElem?_eq_none hge] at h;cases h
theorem cell (h:Blk w g t cs) (i:Nat):w.cell? ⟨g,i,none⟩=cs[i]? := cell_of_row w g i cs t (0,0) h
theorem frozen (h:Blk w g t cs) (i:Nat):w.frozen? ⟨g,i,none⟩=false:=by
 unfold Blk at h
 simp[World.frozen?,h]
theorem new (w:World) (t:TypeId) (cs:Array Value):Blk (w.alloc (.cells cs t)) w.heap.size t cs:=heap_alloc_new w _
theorem drew (h:Blk w g t cs):Blk w.drew g t cs:=h
theorem drewN (h:Blk w g t cs) (n:Nat):Blk (w.drewN n) g t cs:=h
theorem alloc (h:Blk w g t cs) (o:Obj):Blk (w.alloc o) g t cs:=(Below.heap_alloc w o g h.lt).trans h
theorem set (h:Blk w g t cs) (i:Nat) (u:Value):Blk (w.setCell ⟨g,i,none⟩ u) g t (cs.setIfInBounds i u):=by
 unfold Blk at h ⊢
 simp[World.setCell,Array.getElem?_modify,h]
theorem far (h:Blk w g t cs) {p:Addr} (hp:g≠p.block) (u:Value):Blk (w.setCell p u) g t cs:=(Below.heap_setCell w p u g hp).trans h
theorem keep {l:List Nat} (h:Blk w g t cs) (hk:Keep l w w') (hg:g∉l):Blk w' g t cs:=(hk.block g h.lt hg).trans h
theorem keep0 (h:Blk w g t cs) (hk:Keep [] w w'):Blk w' g t cs:=h.keep hk (by simp)
theorem ne_ {g':Nat} {t':TypeId} {cs':Array Value} (h:Blk w g t cs) (h':Blk w g' t' cs') (hne:t≠t'):g≠g':=by
 rintro rfl
 unfold Blk at h h'
 rw[h] at h'
 injection h' with h'
 injection h' with _ ht
 exact hne ht
end Blk
def Rd (w:World) (A:Option Addr) (n:Nat) (xs:List Value):Prop:=
 xs.length=n∧(0<n→∃ b o,A=some ⟨b,o,none⟩∧b<w.heap.size∧∀ j u,xs[j]? = some u→w.cell? ⟨b,o+j,none⟩=some u)
namespace Rd
variable {w w':World} {A:Option Addr} {n:Nat} {xs:List Value}
theorem at_ (h:Rd w A n xs) {j:Nat} (hj:j<n):∃ b o u,A=some ⟨b,o,none⟩∧xs[j]? = some u∧b<w.heap.size∧w.cell? ⟨b,o+j,none⟩=some u:=by
 obtain⟨b,o,rfl,hb,hc⟩:=h.2 (by omega)
 have hx:xs[j]? = some (xs[j]'(by rw[h.1];exact hj)):=List.getElem?_eq_getElem _
 exact⟨b,o,_,rfl,hx,hb,hc j _ hx⟩
theorem keepIf {l:List Nat} (h:Rd w A n xs) (hk:Keep l w w') (hg:∀ a,A=some a→a.block∉l):Rd w' A n xs:=
 ⟨h.1,fun hn=>by
   obtain⟨b,o,e,hb,hc⟩:=h.2 hn
   exact⟨b,o,e,hk.lt hb,fun j u hu=>(hk.cell hb (hg _ e) _).trans (hc j u hu)⟩⟩
theorem keep (h:Rd w A n xs) (hk:Keep [] w w'):Rd w' A n xs:=h.keepIf hk (by simp)
theorem drewN (h:Rd w A n xs) (k:Nat):Rd (w.drewN k) A n xs:=h
theorem drew (h:Rd w A n xs):Rd w.drew A n xs:=h
theorem nil (w:World) (A:Option Addr):Rd w A 0 []:=⟨rfl,fun h=>absurd h (by omega)⟩
theorem cut (h:Rd w A n xs) {k cap:Nat} (hk:k≤n) (hc:n≤cap):Rd w (if cap=k then A else A.map (·.add k)) (n-k) (xs.drop k):=by
 refine⟨by rw[List.length_drop,h.1],fun hn=>?_⟩
 obtain⟨b,o,rfl,hb,hcell⟩:=h.2 (by omega)
 rw[if_neg (by omega)]
 refine⟨b,o+k,by simp[Addr.add_mid],hb,fun j u hu=>?_⟩
 rw[show o+k+j=o+(k+j) by omega]
 exact hcell _ u (by rw[← hu,List.getElem?_drop])
theorem take (h:Rd w A n xs) {k:Nat} (hk:k≤n):Rd w A k (xs.take k):=by
 refine⟨by rw[List.length_take,h.1];omega,fun hn=>?_⟩
 obtain⟨b,o,rfl,hb,hcell⟩:=h.2 (by omega)
 refine⟨b,o,rfl,hb,fun j u hu=>hcell j u ?_⟩
 rw[List.getElem?_take] at hu
 split at hu
 · exact hu
 · cases hu
theorem of_own {base:Nat} {e:TypeId} {c:Nat} (h:w.ownsRow base e 1 (.slice A n c) n xs):Rd w A n xs:=by
 refine⟨by simpa using h.1,fun hn=>?_⟩
 obtain⟨g,cap,hv,_,hlt⟩:=h.form hn
 have hA:A=some ⟨g,0,none⟩:=by injection hv
 subst hA
 refine⟨g,0,rfl,hlt,fun j u hu=>?_⟩
 have:=h.cells (g:=g) rfl j u hu
 rwa [Addr.add_mid] at this
theorem of_blk {g:Nat} {t:TypeId} {cs:Array Value} (h:Blk w g t cs) (hn:n≤cs.size):Rd w (some ⟨g,0,none⟩) n (cs.toList.take n):=by
 refine⟨by simp;omega,fun _=>⟨g,0,rfl,h.lt,fun j u hu=>?_⟩⟩
 rw[h.cell]
 rw[List.getElem?_take] at hu
 split at hu
 · simpa using hu
 · cases hu
end Rd
def by8 (c:UInt8):Value:=.int .u8 c.toNat
def bys (bs:List UInt8):List Value:=bs.map by8
def i64 (z:Int):Value:=.int .i64 z
def VS (zs:List Int):List Value:=zs.map i64
@[simp] theorem length_bys (bs:List UInt8):(bys bs).length=bs.length:=by simp[bys]
@[simp] theorem length_ints (bs:List Int):(VS bs).length=bs.length:=by simp[VS]
theorem Xv (bs:List UInt8) (j:Nat) (h:j<bs.length):(bys bs)[j]? = some (by8 bs[j]):=by simp[bys,h]
theorem VY (a b:List UInt8):bys (a++b)=bys a++bys b:=by simp[bys]
theorem YO (a:List UInt8) (n:Nat):(bys a).take n=bys (a.take n):=by simp[bys,List.map_take]
theorem Yb (a:List UInt8) (n:Nat):(bys a).drop n=bys (a.drop n):=by simp[bys,List.map_drop]
theorem Ja (bs:List UInt8):∀ u∈bys bs,u.oneCell'=true:=by
 intro u hu
 simp only[bys,List.mem_map] at hu
 obtain⟨c,_,rfl⟩:=hu
 rfl
theorem ZAm (bs:List Int):∀ u∈VS bs,u.oneCell'=true:=by
 intro u hu
 simp only[VS,List.mem_map] at hu
 obtain⟨c,_,rfl⟩:=hu
 rfl
theorem ZB {p:Prop} (h:p):Hid p:=h
theorem QA {p:Prop} (h:Hid p):p:=h
theorem VI {k:IntKind} {a b:Int} (h:a=b):Ending.returned (.int k a)=.returned (.int k b):=by rw[h]
theorem XK {a b:Bool} (h:a=b):Ending.returned (.bool a)=.returned (.bool b):=by rw[h]
end
section
open Go.RowKit
structure Elem (P:Program) (t e:TypeId) (z:Value) (bytes:Nat):Prop where
 und:P.underlying t=some (.slice e)
 info:∃ i,P.info? e=some i∧i.zero=some z∧i.size=1∧i.bytes=bytes
 one:z.cells=#[z]
theorem Elem.of {P:Program} {t e:TypeId} {z:Value} {bytes:Nat} (hu:P.underlying t=some (.slice e)) (h:(P.info? e).map (fun i=>(i.zero,i.size,i.bytes))=some (some z,1,bytes)) (h1:z.cells=#[z]):Elem P t e z bytes:=by
 obtain⟨i,h2,h3,h4,h5⟩:=info_parts h
 exact⟨hu,⟨i,h2,h3,h4,h5⟩,h1⟩
theorem Yv (z:Value) (n:Nat):madeCells #[z] n=Array.replicate n z:=by
 rw[← Array.toList_inj,toList_madeCells_one];simp
variable {P:Program} {t e:TypeId} {z:Value} {bytes:Nat}
theorem Elem.run_make (E:Elem P t e z bytes) (kl kc:IntKind) (n c:Nat) (hnc:n≤c) (hb:bytes*c≤281474976710656) (h63:c≤9223372036854775807) (w:World) :
 (Instr.makeSlice t (.int kl (n:Int)) (.int kc (c:Int))).run P w=.ok (.slice (some ⟨w.heap.size,0,none⟩) n c) (w.alloc (.cells (Array.replicate c z) e)):=by
 obtain⟨i,hi,hz,h1,rfl⟩:=E.info
 have hb':(i.bytes:Int)*(c:Int)≤281474976710656:=by
  have h:((i.bytes*c:Nat):Int)≤281474976710656:=by omega
  rwa [Int.natCast_mul] at h
 have hr:=Go.run_make (P:=P) w t e i z E.und hi hz kl kc n c (by omega) (by omega) hb' (by omega)
 simp only[Int.toNat_natCast,h1,Nat.mul_one,E.one,Yv] at hr
 exact hr
theorem Elem.wp_make (E:Elem P t e z bytes) {w:World} {ops:Array Oper} {rest:List Oper} {o:Oper} {a:Act} {Q:Exit→Act→World→Prop}
 (hg:o.guard=none) (l c:Operand) (hop:o.op=Op.makeSlice t l c) (kl kc:IntKind) (L C:Int) (m:Nat) (hl:a.eval l=.int kl L) (hc:a.eval c=.int kc C) (hL:L=(m:Int)) (hC:C=(m:Int))
 (hb:bytes*m≤281474976710656) (h63:m≤9223372036854775807)
 (h:wpList P ops Q rest (a.put o.dst (.slice (some ⟨w.heap.size,0,none⟩) m m)) (w.alloc (.cells (Array.replicate m z) e))) :
 wpList P ops Q (o :: rest) a w:=by
 refine wpList_plain hg fun K hK=>?_
 have hrun:=E.run_make kl kc m m (Nat.le_refl _) hb h63 w
 subst hL
 subst hC
 unfold Oper.wp
 simp[execOp,hop,hl,hc,hrun,Result.andThen]
 exact hK _ _ h
def cutA (A:Option Addr) (k cap:Nat):Option Addr:=if cap=k then A else A.map (·.add k)
theorem JAh (A:Option Addr) (cap:Nat):cutA A 0 cap=A:=by
 unfold cutA
 split
 · rfl
 · cases A <;> simp[Addr.add]
theorem KAw (g o k cap:Nat) (h:cap≠k):cutA (some ⟨g,o,none⟩) k cap=some ⟨g,o+k,none⟩:=by
 unfold cutA
 rw[if_neg h]
 simp[Addr.add_mid]
theorem Rd.cutA {w:World} {A:Option Addr} {n:Nat} {xs:List Value} (h:Rd w A n xs) {k cap:Nat} (hk:k≤n) (hc:n≤cap):Rd w (cutA A k cap) (n-k) (xs.drop k):=h.cut hk hc
theorem Ve (A:Option Addr) (l h cap:Nat):sliced A l h cap 1=.slice (Go.Proofs.YthgphmfipnjllaaGreat.cutA A l cap) (h-l) (cap-l):=by
 unfold sliced Go.Proofs.YthgphmfipnjllaaGreat.cutA
 rw[Nat.mul_one]
theorem Elem.run_size (E:Elem P t e z bytes) (w:World):(sizeOf (P.elem t)).run P w=.ok 1 w:=by
 obtain⟨i,hi,hz,h1,hb⟩:=E.info
 have he:P.elem t=e:=by simp[Program.elem,E.und]
 simp[sizeOf,typeInfo,he,hi,h1]
theorem Elem.und' (E:Elem P t e z bytes):P.underlying t=some (.slice (P.elem t)):=by
 have he:P.elem t=e:=by simp[Program.elem,E.und]
 rw[he];exact E.und
theorem Elem.run_lh (E:Elem P t e z bytes) (A:Option Addr) (n cap:Nat) (kl kh:IntKind) (l h:Int) (h0:0≤l) (h1:l≤h) (h2:h≤cap) (w:World) :
 (Instr.sliceAt t (.slice A n cap) (some (.int kl l)) (some (.int kh h)) none).run P w=.ok (.slice (cutA A l.toNat cap) (h.toNat-l.toNat) (cap-l.toNat)) w:=by
 rw[run_sliceAt_slice _ _ _ _ _ _ E.und',run_slice_lh _ _ _ _ _ E.und' _ _ _ _ h0 h1 h2,E.run_size]
 simp only[Result.andThen,Ve]
theorem Elem.run_l (E:Elem P t e z bytes) (A:Option Addr) (n cap:Nat) (kl:IntKind) (l:Int) (h0:0≤l) (h1:l≤n) (w:World) :
 (Instr.sliceAt t (.slice A n cap) (some (.int kl l)) none none).run P w=.ok (.slice (cutA A l.toNat cap) (n-l.toNat) (cap-l.toNat)) w:=by
 rw[run_sliceAt_slice _ _ _ _ _ _ E.und',run_slice_l _ _ _ _ _ E.und' _ _ h0 h1,E.run_size]
 simp only[Result.andThen,Ve]
theorem Elem.run_h (E:Elem P t e z bytes) (A:Option Addr) (n cap:Nat) (kh:IntKind) (h:Int) (h0:0≤h) (h2:h≤cap) (w:World) :
 (Instr.sliceAt t (.slice A n cap) none (some (.int kh h)) none).run P w=.ok (.slice A h.toNat cap) w:=by
 rw[run_sliceAt_slice _ _ _ _ _ _ E.und',run_slice_h _ _ _ _ _ E.und' _ _ h0 h2,E.run_size]
 simp only[Result.andThen,Ve,JAh,Nat.sub_zero]
theorem Xa {w:World} {ops:Array Oper} {rest:List Oper} {o:Oper} {a:Act} {Q:Exit→Act→World→Prop}
 (hg:o.guard=none) (x:Operand) (lo hi:Option Operand) (hop:o.op=Op.slice t x lo hi none) (v:Value)
 (hrun:∀ W,(Instr.sliceAt t (a.eval x) (lo.map a.eval) (hi.map a.eval) none).run P W=.ok v W)
 (h:wpList P ops Q rest (a.put o.dst v) w):wpList P ops Q (o :: rest) a w:=by
 refine wpList_plain hg fun K hK=>?_
 unfold Oper.wp
 have hr:=hrun w
 simp only[execOp,hop]
 simp[hr,Result.andThen]
 exact hK _ _ h
theorem Jg (E:Elem P t e z bytes) (w:World) (base:Nat) (ty:TypeId) (v:Value) (n:Nat) (xs:List Value) (hown:w.ownsRow base e 1 v n xs) (c:Nat):(Builtin.append_ #[t,t] ty #[v,.slice none 0 c]).run P w=.ok v w:=by
 obtain⟨i,hi,hz,h1,hb⟩:=E.info
 rcases hown.2 with⟨rfl,rfl⟩ | ⟨g,cap,cur,rfl,_,_,hnc,_⟩
 · simp[Builtin.append_,run_underlying E.und,sizeOf,typeInfo,hi,Builtin.lenOf,Builtin.firstCells]
 · simp[Builtin.append_,run_underlying E.und,sizeOf,typeInfo,hi,Builtin.lenOf,Builtin.firstCells,hnc,storeCells]
theorem Elem.run_app (E:Elem P t e z bytes) (w:World) (base:Nat) (ty:TypeId) (v:Value) (n:Nat) (xs:List Value) (hown:w.ownsRow base e 1 v n xs)
 (A:Option Addr) (m c:Nat) (news:List Value) (hr:Rd w A m news) (h1:∀ u∈news,u.oneCell'=true)
 (h63:n+m≤9223372036854775807) (hbytes:(n+m)*bytes≤140737488355328) (hbase:base≤w.heap.size) :
 ∃ v' w',(Builtin.append_ #[t,t] ty #[v,.slice A m c]).run P w=.ok v' w'∧w'.ownsRow base e 1 v' (n+m) (xs++news)∧Keep v.ownBlock.toList w w' ∧
   (v'.ownBlock=v.ownBlock∨v'.ownBlock=some w.heap.size)∧(v'=.slice none 0 0↔v=.slice none 0 0∧m=0):=by
 rcases Nat.eq_zero_or_pos m with h0 | h0
 · subst h0
   have hn:news=[]:=List.eq_nil_of_length_eq_zero hr.1
   subst hn
   rcases A with _ | ad
   · exact⟨v,w,Jg E w base ty v n xs hown c,by simpa using hown,Keep.refl _ _,.inl rfl,by simp⟩
   · obtain⟨i,hi,hz,hs,hb⟩:=E.info
     obtain⟨v',w',h1,h2,h3,h4,h5⟩:=run_append_own_at (P:=P) w base t ty e i z 1 bytes E.und hi hz hs hb (by rw[E.one];rfl) (by omega) v n xs hown ad 0 c [] rfl (by simp) (by simp) (by simpa [maxLen] using h63) hbytes hbase
     exact⟨v',w',h1,h2,Keep.ofGrown h3,h5,h4⟩
 · obtain⟨b,o,rfl,hb,hc⟩:=hr.2 h0
   obtain⟨i,hi,hz,hs,hby⟩:=E.info
   obtain⟨v',w',h1,h2,h3,h4,h5⟩:=run_append_own_at (P:=P) w base t ty e i z 1 bytes E.und hi hz hs hby (by rw[E.one];rfl) (by omega) v n xs hown ⟨b,o,none⟩ m c news (by simpa using hr.1) (fun j u hu=>by rw[Addr.add_mid];exact hc j u hu) h1 (by simpa [maxLen] using h63) hbytes hbase
   exact⟨v',w',h1,h2,Keep.ofGrown h3,h5,h4⟩
theorem Elem.wp1_app (E:Elem P t e z bytes) {w:World} {o:Oper} {a:Act} {K:Act→World→Prop} {Q:Exit→Act→World→Prop} (s x:Operand)
 (ho:o.op=.call { callee:=.builtin .append,args:=#[s,x],argTypes:=#[t,t] })
 (base:Nat) (v:Value) (n:Nat) (xs:List Value) (hs:a.eval s=v) (hown:w.ownsRow base e 1 v n xs)
 (A:Option Addr) (m c:Nat) (news:List Value) (hx:a.eval x=.slice A m c) (hr:Rd w A m news) (h1:∀ u∈news,u.oneCell'=true)
 (h63:n+m≤9223372036854775807) (hbytes:(n+m)*bytes≤140737488355328) (hbase:base≤w.heap.size)
 (h:∀ v' w',w'.ownsRow base e 1 v' (n+m) (xs++news)→Keep v.ownBlock.toList w w'→(v'.ownBlock=v.ownBlock∨v'.ownBlock=some w.heap.size)→(v'=.slice none 0 0↔v=.slice none 0 0∧m=0)→K (a.put o.dst v') w'):o.wp P a w K Q:=by
 obtain⟨v',w',hrun,h2,h3,h4,h5⟩:=E.run_app w base o.type v n xs hown A m c news hr h1 h63 hbytes hbase
 unfold Oper.wp execOp
 simp only[ho,resolve,invoke,builtin,Sem.run_bind,Sem.run_pure,Result.andThen_ok,List.map_toArray,List.map_cons,List.map_nil,hs,hx,hrun]
 exact h v' w' h2 h3 h4 h5
theorem Elem.wp_app (E:Elem P t e z bytes) {w:World} {ops:Array Oper} {rest:List Oper} {o:Oper} {a:Act} {Q:Exit→Act→World→Prop} (hgd:o.guard=none) (s x:Operand)
 (ho:o.op=.call { callee:=.builtin .append,args:=#[s,x],argTypes:=#[t,t] })
 (base:Nat) (v:Value) (n:Nat) (xs:List Value) (hs:a.eval s=v) (hown:w.ownsRow base e 1 v n xs)
 (A:Option Addr) (m c:Nat) (news:List Value) (hx:a.eval x=.slice A m c) (hr:Rd w A m news) (h1:∀ u∈news,u.oneCell'=true)
 (h63:n+m≤9223372036854775807) (hbytes:(n+m)*bytes≤140737488355328) (hbase:base≤w.heap.size)
 (h:∀ v' w',w'.ownsRow base e 1 v' (n+m) (xs++news)→Keep v.ownBlock.toList w w'→(v'.ownBlock=v.ownBlock∨v'.ownBlock=some w.heap.size)→(v'=.slice none 0 0↔v=.slice none 0 0∧m=0)→wpList P ops Q rest (a.put o.dst v') w'):wpList P ops Q (o :: rest) a w:=
 wpList_plain hgd fun _ hK=>E.wp1_app s x ho base v n xs hs hown A m c news hx hr h1 h63 hbytes hbase fun v' w' h2 h3 h4 h5=>hK _ _ (h v' w' h2 h3 h4 h5)
theorem Elem.wp_copy (E:Elem P t e z bytes) {w:World} {ops:Array Oper} {rest:List Oper} {o:Oper} {a:Act} {Q:Exit→Act→World→Prop} (hgd:o.guard=none) (d s:Operand)
 (ho:o.op=.call { callee:=.builtin .copy,args:=#[d,s],argTypes:=#[t,t] })
 (D A:Option Addr) (dl dc sl sc:Nat) (hd:a.eval d=.slice D dl dc) (hs:a.eval s=.slice A sl sc)
 (g off:Nat) (cur:List Value) (tt:TypeId) (hg:Blk w g tt cur.toArray) (hD:0<dl→D=some ⟨g,off,none⟩) (hfit:off+dl≤cur.length)
 (ys:List Value) (hr:Rd w A sl ys) (h1:∀ v∈ys.take dl,v.oneCell'=true)
 (h:∀ w',Blk w' g tt (splice cur off (ys.take dl)).toArray→Keep [g] w w'→wpList P ops Q rest (a.put o.dst (goInt (Nat.min sl dl))) w') :
 wpList P ops Q (o :: rest) a w:=by
 obtain⟨i,hi,hz,hsz,hby⟩:=E.info
 have hsz':(P.info? e).map (·.size)=some 1:=by rw[hi];simp[hsz]
 have hlen:(ys.take dl).length=Nat.min sl dl:=by rw[List.length_take,hr.1];exact Nat.min_comm _ _
 rw[← hlen] at h
 by_cases h0:(ys.take dl).length=0
 · have hnil:ys.take dl=[]:=List.eq_nil_of_length_eq_zero h0
   refine wpList_copy_nothing hgd d s t t ho e E.und hsz' D A dl dc sl sc hd hs (by rw[← hlen];exact h0) ?_
   have:=h w (by rw[hnil];simpa [splice] using hg) (Keep.refl _ _)
   rwa [h0] at this
 · have hdl:0<dl:=by
    rcases Nat.eq_zero_or_pos dl with e | e
    · subst e;simp at h0
    · exact e
   have hsl:0<sl:=by
    rcases Nat.eq_zero_or_pos sl with e | e
    · subst e
      have:=hr.1
      simp only[List.length_take] at h0
      omega
    · exact e
   obtain rfl:=hD hdl
   obtain⟨b,o',rfl,hb,hc⟩:=hr.2 hsl
   refine wpList_copy_own hgd d s t t ho e E.und hsz' g off dl dc ⟨b,o',none⟩ sl sc hd hs cur.toArray tt hg (ys.take dl) hlen ?_ ?_ ?_ ?_
   · intro j v hv
     rw[Addr.add_mid]
     refine hc j v ?_
     rw[List.getElem?_take] at hv
     split at hv
     · exact hv
     · cases hv
   · simp only[List.length_take,List.size_toArray]
     omega
   · intro v hv
     exact h1 v hv
   · refine h _ ?_ ?_
     · show _=_
       simpa [splice] using setRow_heap w g _ _ tt _ hg
     · exact⟨rfl,rfl,rfl,by simp[World.setRow],fun k hk hn=>setRow_other w g k _ (by simpa using hn)⟩
theorem YAM {α:Type} (L cs:List α) (h:L.length=cs.length):splice L 0 cs=cs:=by simp[splice,← h]
theorem Qh {w:World} {base g n c:Nat} {e:TypeId} {xs:List Value} {cs:Array Value} (h:Blk w g e cs) (hb:base≤g) (hn:n≤c) (hc:c≤9223372036854775807) (hs:cs.size=c) (hx:cs.toList.take n=xs) :
 w.ownsRow base e 1 (.slice (some ⟨g,0,none⟩) n c) n xs:=by
 refine⟨?_,.inr ⟨g,c,cs,rfl,hb,h,hn,by simpa [maxLen] using hc,by omega,by simpa using hx⟩⟩
 rw[← hx];simp;omega
theorem VM {w:World} {base g n:Nat} {e:TypeId} {xs:List Value} {cs:Array Value} (h:Blk w g e cs) (hb:base≤g) (hc:n≤9223372036854775807) (hs:cs.size=n) (hx:cs.toList=xs) :
 w.ownsRow base e 1 (.slice (some ⟨g,0,none⟩) n n) n xs:=
 Qh h hb (Nat.le_refl _) hc hs (by rw[hx];exact List.take_of_length_le (by rw[← hx];simp[hs]))
theorem VC {w:World} {base base':Nat} {e:TypeId} {v:Value} {n s:Nat} {xs:List Value} (h:w.ownsRow base e s v n xs) (hb:base'≤base):w.ownsRow base' e s v n xs:=by
 refine⟨h.1,?_⟩
 rcases h.2 with h2 | ⟨g,cap,cur,r1,r2,r⟩
 · exact .inl h2
 · exact .inr ⟨g,cap,cur,r1,by omega,r⟩
theorem KA {w w':World} {base:Nat} {e:TypeId} {v:Value} {n s:Nat} {xs:List Value} {l:List Nat} (h:w.ownsRow base e s v n xs) (hk:Keep l w w') (hn:∀ g,v.ownBlock=some g→g∉l):w'.ownsRow base e s v n xs:=by
 refine⟨h.1,?_⟩
 rcases h.2 with h2 | ⟨g,cap,cur,rfl,r2,r3,r⟩
 · exact .inl h2
 · exact .inr ⟨g,cap,cur,rfl,r2,Blk.keep (g:=g) r3 hk (hn g rfl),r⟩
theorem ZA {w w':World} {base:Nat} {e:TypeId} {v:Value} {n s:Nat} {xs:List Value} (h:w.ownsRow base e s v n xs) (hk:Keep [] w w'):w'.ownsRow base e s v n xs:=KA h hk (by simp)
theorem QB {w:World} {base:Nat} {e:TypeId} {v:Value} {n s:Nat} {xs:List Value} (h:w.ownsRow base e s v n xs):∃ A c,v=.slice A n c∧n≤c∧c≤9223372036854775807∧(A=none→n=0∧c=0)∧(∀ a,A=some a→∃ g,a=⟨g,0,none⟩):=by
 rcases h.2 with⟨rfl,rfl⟩ | ⟨g,cap,cur,rfl,_,_,hc,hm,_⟩
 · exact⟨_,_,rfl,by omega,by omega,by simp,by simp⟩
 · exact⟨_,_,rfl,hc,by simpa [maxLen] using hm,by simp,by intro a ha;injection ha with ha;exact⟨g,ha.symm⟩⟩
theorem KO (w:World) (x:Value) (e:TypeId):Rd (w.alloc (.cells #[x] e)) (some ⟨w.heap.size,0,none⟩) 1 [x]:=by
 have:=Rd.of_blk (n:=1) (Blk.new w e #[x]) (by simp)
 simpa using this
theorem YD {w:World} {base:Nat} {e:TypeId} {v:Value} {n s:Nat} {xs:List Value} (h:w.ownsRow base e s v n xs) (o:Obj):(w.alloc o).ownsRow base e s v n xs:=
 ZA h ((Keep.refl [] w).alloc o)
end
section
open Go.RowKit
def le (k n:Nat):List UInt8:=(List.range k).map fun i=>UInt8.ofNat (n / 256 ^ i % 256)
theorem le_succ (k n:Nat):le (k+1) n=le k n++[UInt8.ofNat (n / 256 ^ k % 256)]:=by simp[le,List.range_succ]
@[simp] theorem length_le (k n:Nat):(le k n).length=k:=by simp[le]
@[simp] theorem le_zero (n:Nat):le 0 n=[]:=rfl
def laid {α:Type} (bs:List α) (a:Nat) (ns:List α):List α:=bs.take a++ns++bs.drop (a+ns.length)
@[simp] theorem laid_nil {α:Type} (bs:List α) (a:Nat):laid bs a []=bs:=by simp[laid]
theorem XF {α:Type} (bs:List α) (a:Nat) (ns:List α) (h:a+ns.length≤bs.length):(laid bs a ns).length=bs.length:=by
 simp[laid];omega
theorem JAg {α:Type} (bs:List α) (a:Nat) (ns:List α) (x:α) (h:a+ns.length<bs.length):laid bs a (ns++[x])=(laid bs a ns).set (a+ns.length) x:=by
 unfold laid
 rw[List.set_append_right _ _ (by simp;omega)]
 have h1:a+ns.length-(bs.take a++ns).length=0:=by simp;omega
 rw[h1,List.drop_eq_getElem_cons h,List.set_cons_zero,List.length_append]
 simp[Nat.add_assoc]
theorem YAi {α:Type} (bs:List α) (a:Nat) (ns ms:List α) (h:a+ns.length+ms.length≤bs.length):laid (laid bs a ns) (a+ns.length) ms=laid bs a (ns++ms):=by
 have h1:(bs.take a++ns).length=a+ns.length:=by simp;omega
 unfold laid
 rw[List.take_append_of_le_length (by omega),List.take_of_length_le (by omega),List.drop_append,List.drop_drop]
 rw[List.drop_of_length_le (by omega),List.nil_append,h1,List.length_append]
 simp only[List.append_assoc]
 congr 4
 omega
theorem KAk {α β:Type} (f:α→β) (bs:List α) (a:Nat) (ns:List α):(laid bs a ns).map f=laid (bs.map f) a (ns.map f):=by
 simp[laid,List.map_take,List.map_drop]
theorem Vu (bs:List UInt8) (a:Nat) (ns:List UInt8):bys (laid bs a ns)=laid (bys bs) a (bys ns):=by simp[bys,KAk]
theorem QAx (bs:List UInt8) (i:Nat) (x:UInt8):bys (bs.set i x)=(bys bs).set i (by8 x):=by simp[bys,List.map_set]
theorem ZAL {α:Type} (bs ns:List α) (h:ns.length=bs.length):laid bs 0 ns=ns:=by simp[laid,h]
theorem Kb {w:World} {base g n c:Nat} {e:TypeId} {xs:List Value} (h:w.ownsRow base e 1 (.slice (some ⟨g,0,none⟩) n c) n xs) (i:Nat) (u:Value) :
 (w.setCell ⟨g,i,none⟩ u).ownsRow base e 1 (.slice (some ⟨g,0,none⟩) n c) n (xs.set i u):=by
 rcases h.2 with⟨he,_⟩ | ⟨g',cap,cur,he,hb,hg,hn,hm,hs,ht⟩
 · cases he
 · cases he
   refine Qh (Blk.set (t:=e) hg i u) hb hn (by simpa [maxLen] using hm) (by simpa using hs) ?_
   rw[Array.toList_setIfInBounds,List.take_set,show cur.toList.take n=xs by simpa using ht]
theorem QK {w:World} {base g n c:Nat} {e:TypeId} {xs:List Value} (h:w.ownsRow base e 1 (.slice (some ⟨g,0,none⟩) n c) n xs) {i:Nat} {u:Value} (hu:xs[i]? = some u):w.cell? ⟨g,i,none⟩=some u:=by
 rcases h.2 with⟨he,_⟩ | ⟨g',cap,cur,he,hb,hg,hn,hm,hs,ht⟩
 · cases he
 · cases he
   rw[Blk.cell (t:=e) hg]
   rw[← ht,List.getElem?_take] at hu
   split at hu
   · simpa using hu
   · cases hu
theorem XJ {w:World} {base g n c:Nat} {e:TypeId} {xs:List Value} (h:w.ownsRow base e 1 (.slice (some ⟨g,0,none⟩) n c) n xs) (i:Nat):w.frozen? ⟨g,i,none⟩=false:=by
 rcases h.2 with⟨he,_⟩ | ⟨g',cap,cur,he,hb,hg,hn,hm,hs,ht⟩
 · cases he
 · cases he
   exact Blk.frozen (t:=e) hg i
theorem VAI {w:World} {base g n c:Nat} {e:TypeId} {xs:List Value} (h:w.ownsRow base e 1 (.slice (some ⟨g,0,none⟩) n c) n xs):g<w.heap.size:=(h.lt g rfl).2
theorem ZG {w:World} {base n:Nat} {e:TypeId} {v:Value} {xs:List Value} (h:w.ownsRow base e 1 v n xs) (hn:0<n):∃ g c,v=.slice (some ⟨g,0,none⟩) n c∧n≤c:=by
 rcases h.2 with⟨rfl,h0⟩ | ⟨g',cap,cur,he,hb,hg,hc,hm,hs,ht⟩
 · omega
 · exact⟨g',cap,he,hc⟩
theorem Kv {w:World} {base g n c a:Nat} {e:TypeId} {bs ns:List UInt8} (h:w.ownsRow base e 1 (.slice (some ⟨g,0,none⟩) n c) n (bys (laid bs a ns))) (hl:a+ns.length<bs.length) (x:UInt8) (i:Nat) (hi:i=a+ns.length) :
 (w.setCell ⟨g,i,none⟩ (by8 x)).ownsRow base e 1 (.slice (some ⟨g,0,none⟩) n c) n (bys (laid bs a (ns++[x]))):=by
 subst hi
 rw[JAg _ _ _ _ hl,QAx]
 exact Kb h _ _
theorem YAs (a:Int) (h0:0≤a) (h1:a≤9223372036854775807):bits BinOp.and IntKind.i64 a 255=a % 256:=by
 obtain⟨k,rfl⟩:=Int.eq_ofNat_of_zero_le h0
 show IntKind.i64.wrap ((BitVec.ofInt 64 (k:Int) &&& BitVec.ofInt 64 255).toNat:Int)=_
 have h2:(BitVec.ofInt 64 (k:Int)).toNat=k:=by
  rw[BitVec.ofInt_natCast,BitVec.toNat_ofNat];exact Nat.mod_eq_of_lt (by omega)
 have h3:(BitVec.ofInt 64 255).toNat=2 ^ 8-1:=by decide
 rw[BitVec.toNat_and,h2,h3,Nat.and_two_pow_sub_one_eq_mod,IntKind.wrap_i64]
 omega
theorem XAe (n i:Nat) (hn:n≤9223372036854775807) (hi:i≤7):Value.int .u8 (bits BinOp.and IntKind.i64 (((n:Nat):Int) / 2 ^ (8*i)) 255 % 256)=by8 (UInt8.ofNat (n / 256 ^ i % 256)):=by
 have hp:((2:Int) ^ (8*i))=((256 ^ i:Nat):Int):=by
  rw[Int.natCast_pow,show ((256:Nat):Int)=2 ^ 8 by rfl,Int.pow_mul]
 have hd:n / 256 ^ i≤n:=Nat.div_le_self _ _
 rw[hp,← Int.natCast_ediv]
 generalize n / 256 ^ i=q at *
 rw[YAs _ (by omega) (by omega)]
 unfold by8
 rw[UInt8.toNat_ofNat']
 congr 1
end
section
open Go.RowKit
theorem JAP (n low high:Int) (w:World) :
 Calls Tryz.prog 226 #[.int .i64 n,.int .i64 low,.int .i64 high] w fun e w'=>e=.returned (.bool (decide (low≤n∧n≤high)))∧w=w':=by
 by_cases h1:low≤n
 · by_cases h2:n≤high
   all_goals
    go_enter Tryz.func226,Tryz.ntmps226
    go_wp2
    go_ret
    exact⟨by simp[h1,h2],rfl⟩
 · go_enter Tryz.func226,Tryz.ntmps226
   go_wp2
   go_ret
   exact⟨by simp;omega,rfl⟩
theorem YAr (n m:Int) (hm:0<m):n % m=if n.tmod m<0 then n.tmod m+m else n.tmod m:=by
 have h1:=Int.tmod_lt_of_pos n hm
 have h2 : -m<n.tmod m:=by
  have:=Int.tmod_lt_of_pos (-n) hm
  rw[Int.neg_tmod] at this;omega
 have h3:=Int.mul_tdiv_add_tmod n m
 have key:∀ r:Int,0≤r→r<m→(∃ q,m*q+r=n)→n % m=r:=by
  intro r hr0 hr1 ⟨q,hq⟩
  rw[← hq,Int.add_comm,Int.add_mul_emod_self_left,Int.emod_eq_of_lt hr0 hr1]
 split
 · refine key _ (by omega) (by omega) ⟨n.tdiv m-1,?_⟩
   rw[Int.mul_sub];omega
 · exact key _ (by omega) (by omega) ⟨n.tdiv m,by omega⟩
theorem YAG (n m:Int) (w:World) (hm:0<m) (hm':m≤9223372036854775807) :
 Calls Tryz.prog 49 #[.int .i64 n,.int .i64 m] w fun e w'=>e=.returned (.int .i64 (n % m))∧w=w':=by
 have k:=YAr n m hm
 have h1:=Int.tmod_lt_of_pos n hm
 have h2 : -m<n.tmod m:=by
  have:=Int.tmod_lt_of_pos (-n) hm
  rw[Int.neg_tmod] at this;omega
 have K:=ZB k
 clear k
 go_enter Tryz.func49,Tryz.ntmps49
 go_wp2
 · have h3:n.tmod m<0:=by assumption
   go_ret
   refine⟨VI ?_,rfl⟩
   rw[QA K,if_pos h3]
 · have h3:0≤n.tmod m:=by assumption
   go_ret
   refine⟨VI ?_,rfl⟩
   rw[QA K,if_neg (by omega)]
theorem QP (n m:Int) (w:World) (hm:0<m) (hm':m≤9223372036854775807) :
 Calls Tryz.prog 10 #[.int .i64 n,.int .i64 m] w fun e w'=>e=.returned (.int .i64 (n % m))∧w=w':=by
 go_enter Tryz.func10,Tryz.ntmps10
 go_wp2_with (go_at_call 49;refine(YAG _ _ _ hm hm').mono ?_;rintro e w' ⟨rfl,rfl⟩)
 go_ret
 exact⟨rfl,rfl⟩
end
section
open Go.RowKit
theorem elem8:Elem Tryz.prog 39 5 (.int .u8 0) 1:=Elem.of Tryz.underlying39 (by kernel_rfl) rfl
theorem elemRows:Elem Tryz.prog 86 39 (.slice none 0 0) 24:=Elem.of Tryz.underlying86 (by kernel_rfl) rfl
theorem JAJ (A:Option Addr) (n c:Nat) (xs:List UInt8) (f t:Int) (w:World) (ha:Rd w A n (bys xs)) (hf:0≤f) (hft:f≤t) (htn:t≤n) (hn:n≤c) (hc:n≤140737488355328) :
 Calls Tryz.prog 262 #[.slice A n c,.int .i64 f,.int .i64 t] w fun e w'=>∃ v,e=.returned v∧w'.ownsRow w.heap.size 5 1 v (t-f).toNat (bys ((xs.drop f.toNat).take (t-f).toNat))∧Keep [] w w':=by
 obtain⟨m,hm⟩:∃ m:Nat,t-f=m:=⟨(t-f).toNat,by omega⟩
 have hm2:(t-f).toNat=m:=by omega
 rw[hm2]
 have hlen:xs.length=n:=by simpa using ha.1
 have hcut:=(ha.cutA (k:=f.toNat) (cap:=c) (by omega) (by omega)).take (k:=m) (by omega)
 have hmn:m≤n:=by omega
 have HM:=ZB hm
 have HL:=ZB hlen
 clear hm hm2 hlen
 go_enter Tryz.func262,Tryz.ntmps262
 go_wp2_with (first
  | (at_make;refine elem8.wp_make rfl _ _ rfl .i64 .i64 (t-f) (t-f) m rfl rfl (QA HM) (QA HM) (by omega) (by omega) ?_)
  | (refine Xa rfl (.tmp 13) (some (.tmp 14)) (some (.tmp 15)) rfl (.slice (cutA A f.toNat c) m (c-f.toNat)) ?hrun ?_)
  | (refine elem8.wp_copy rfl (.tmp 12) (.tmp 16) rfl (some ⟨w.heap.size,0,none⟩) (cutA A f.toNat c) m m m (c-f.toNat) rfl rfl w.heap.size 0 (List.replicate m (.int .u8 0)) 5 ?hblk (fun _=>rfl) (by simp) _ ((hcut.keep ((Keep.refl _ w).alloc _))) ?hone ?_))
 case hrun=>
  intro W
  have:=elem8.run_lh A n c .i64 .i64 f t hf hft (by omega) W
  rw[show t.toNat-f.toNat=m from by have:=QA HM;omega] at this
  exact this
 case hblk=>simpa using Blk.new w 5 (Array.replicate m (.int .u8 0))
 case hone=>
  rw[Yb,YO]
  exact fun v hv=>Ja _ v (List.mem_of_mem_take hv)
 intro w2 hb2 hk2
 go_wp2
 go_ret
 have hl:((xs.drop f.toNat).take m).length=m:=by
  have h1:=QA HM
  have h2:=QA HL
  simp;omega
 rw[Yb,YO,List.take_of_length_le (by simpa using Nat.le_of_eq hl),YAM _ _ (by simpa using hl.symm)] at hb2
 refine⟨_,rfl,VM hb2 (Nat.le_refl _) (by omega) (by simpa using hl) rfl,?_⟩
 exact((Keep.refl _ w).alloc _).trans hk2 (by simp)
theorem XR (A:Option Addr) (n c:Nat) (xs:List UInt8) (w:World) (ha:Rd w A n (bys xs)) (hn:n≤140737488355328) :
 Calls Tryz.prog 139 #[.slice A n c] w fun e w'=>∃ v,e=.returned v∧w'.ownsRow w.heap.size 5 1 v n (bys xs)∧Keep [] w w'∧(v=.slice none 0 0↔A=none):=by
 have heq:=fun(W:World)=>Lib.run_eql_slice_nil (P:=Tryz.prog) W 39 5 A n c 0 0 Tryz.underlying39
 rcases A with _ | ad
 · obtain rfl:n=0:=by
    rcases Nat.eq_zero_or_pos n with e | e
    · exact e
    · obtain⟨b,o,h,_⟩:=ha.2 e
      cases h
   obtain rfl:xs=[]:=List.eq_nil_of_length_eq_zero (by simpa using ha.1)
   go_enter Tryz.func139,Tryz.ntmps139
   go_wp2
   go_ret
   exact⟨_,rfl,World.ownsRow_nil _ _ _ _,Keep.refl _ _,by simp⟩
 · have hr:=ha.keep ((Keep.refl _ w).alloc (.cells #[] 5))
   have ho:(w.alloc (.cells #[] 5)).ownsRow w.heap.size 5 1 (.slice (some ⟨w.heap.size,0,none⟩) 0 0) 0 []:=VM (Blk.new w 5 #[]) (Nat.le_refl _) (by omega) rfl rfl
   go_enter Tryz.func139,Tryz.ntmps139
   go_wp2_with (at_builtin;refine elem8.wp_app rfl _ _ rfl w.heap.size _ 0 [] rfl ho (some ad) n c (bys xs) rfl hr (Ja _) (by omega) (by omega) (by simp) ?_)
   intro v' w' hown hk _ hnil
   go_wp2
   go_ret
   exact⟨_,rfl,hown,((Keep.refl _ w).alloc _).trans hk (by simp[Value.ownBlock]),by simp[hnil]⟩
def Bts (w:World) (v:Value) (bs:List UInt8):Prop:=∃ A n c,v=.slice A n c∧n≤c∧n≤140737488355328∧Rd w A n (bys bs)
theorem Bts.keep {w w':World} {v:Value} {bs:List UInt8} (h:Bts w v bs) (hk:Keep [] w w'):Bts w' v bs:=by
 obtain⟨A,n,c,e,h1,h2,h3⟩:=h
 exact⟨A,n,c,e,h1,h2,h3.keep hk⟩
theorem Bts.keepIf {w w':World} {v:Value} {bs:List UInt8} {l:List Nat} (h:Bts w v bs) (hk:Keep l w w') (hl:∀ g∈v.ownBlock.toList,g∉l):Bts w' v bs:=by
 obtain⟨A,n,c,rfl,h1,h2,h3⟩:=h
 exact⟨A,n,c,rfl,h1,h2,h3.keepIf hk (fun a ha=>hl _ (by simp[Value.ownBlock,ha]))⟩
theorem Bts.drewN {w:World} {v:Value} {bs:List UInt8} (h:Bts w v bs) (k:Nat):Bts (w.drewN k) v bs:=h
theorem Bts.of_own {w:World} {v:Value} {bs:List UInt8} {base n:Nat} (h:w.ownsRow base 5 1 v n (bys bs)) (hn:n≤140737488355328):Bts w v bs:=by
 rcases h.2 with⟨rfl,rfl⟩ | ⟨g,cap,cur,rfl,_,_,hc,_⟩
 · exact⟨_,_,_,rfl,Nat.le_refl _,hn,Rd.of_own h⟩
 · exact⟨_,_,_,rfl,hc,hn,Rd.of_own h⟩
def Rws (w:World) (A:Option Addr) (n:Nat) (ls:List (Value×List UInt8)):Prop:=Rd w A n (ls.map (·.1))∧∀ p∈ls,Bts w p.1 p.2
theorem Rws.keep {w w':World} {A:Option Addr} {n:Nat} {ls:List (Value×List UInt8)} (h:Rws w A n ls) (hk:Keep [] w w'):Rws w' A n ls:=
 ⟨h.1.keep hk,fun p hp=>(h.2 p hp).keep hk⟩
theorem Rws.drewN {w:World} {A:Option Addr} {n:Nat} {ls:List (Value×List UInt8)} (h:Rws w A n ls) (k:Nat):Rws (w.drewN k) A n ls:=h
theorem Rws.len {w:World} {A:Option Addr} {n:Nat} {ls:List (Value×List UInt8)} (h:Rws w A n ls):ls.length=n:=by simpa using h.1.1
theorem Rws.at_ {w:World} {A:Option Addr} {n:Nat} {ls:List (Value×List UInt8)} (h:Rws w A n ls) {j:Nat} (hj:j<n) (hl:j<ls.length) :
 ∃ b o,A=some ⟨b,o,none⟩∧b<w.heap.size∧w.cell? ⟨b,o+j,none⟩=some ls[j].1∧Bts w ls[j].1 ls[j].2:=by
 obtain⟨b,o,u,rfl,hx,hb,hc⟩:=h.1.at_ hj
 simp only[List.getElem?_map,List.getElem?_eq_getElem hl,Option.map_some,Option.some.injEq] at hx
 subst hx
 exact⟨b,o,rfl,hb,hc,h.2 _ (List.getElem_mem hl)⟩
theorem Jw {α β:Type} (f:α→β) (l:List α) (k:Nat) (h:k<l.length):(l.map f).take (k+1)=(l.map f).take k++[f l[k]]:=by
 rw[List.take_succ_eq_append_getElem (by simpa using h)];simp
end
section
open Go.RowKit
def num:List UInt8→Nat
 | []=>0
 | b :: l=>b.toNat+256*num l
@[simp] theorem num_nil:num []=0:=rfl
theorem ZBD (l:List UInt8):num l<256 ^ l.length:=by
 induction l with
 | nil=>simp
 | cons b l ih=>
   have:=b.toNat_lt
   simp only[num,List.length_cons,Nat.pow_succ]
   omega
theorem XAN (l k:List UInt8):num (l++k)=num l+256 ^ l.length*num k:=by
 induction l with
 | nil=>simp
 | cons b l ih=>simp only[List.cons_append,num,ih,List.length_cons,Nat.pow_succ,Nat.mul_add];rw[← Nat.mul_assoc,Nat.mul_comm 256 (256 ^ l.length)];omega
theorem QAn (l:List UInt8) (b:UInt8):num (l++[b])=num l+256 ^ l.length*b.toNat:=by rw[XAN];simp[num]
theorem QAz (k n:Nat):le (k+1) n=UInt8.ofNat (n % 256) :: le k (n / 256):=by
 unfold le
 rw[List.range_succ_eq_map,List.map_cons,List.map_map]
 congr 1
 · simp
 · apply List.map_congr_left
   intro i _
   simp only[Function.comp]
   rw[Nat.div_div_eq_div_mul,Nat.pow_succ,Nat.mul_comm]
theorem XBB (k n:Nat) (h:n<256 ^ k):num (le k n)=n:=by
 induction k generalizing n with
 | zero=>simp at h;simp[h]
 | succ k ih=>
   rw[QAz,num,ih _ (by rw[Nat.pow_succ] at h;omega)]
   rw[UInt8.toNat_ofNat']
   omega
theorem YAt (a b:Nat) (ha:a≤9223372036854775807) (hb:b≤9223372036854775807):bits BinOp.or IntKind.i64 (a:Int) (b:Int)=IntKind.i64.wrap ((a ||| b:Nat):Int):=by
 show IntKind.i64.wrap ((BitVec.ofInt 64 (a:Int) ||| BitVec.ofInt 64 (b:Int)).toNat:Int)=_
 rw[BitVec.ofInt_natCast,BitVec.ofInt_natCast,BitVec.toNat_or,BitVec.toNat_ofNat,BitVec.toNat_ofNat,Nat.mod_eq_of_lt (by omega),Nat.mod_eq_of_lt (by omega)]
theorem Xi (y:Nat) (h:y≤9223372036854775807):wrap64 ((y:Nat):Int)=(y:Nat):=by unfold wrap64;omega
theorem YBF (n i:Nat) (x:UInt8) (hi:i≤3) (hn:n<256 ^ i):bits BinOp.or IntKind.i64 (n:Int) (wrap64 (wrap64 ((x.toNat:Nat):Int)*2 ^ (8*i)))=((n+256 ^ i*x.toNat:Nat):Int):=by
 have hx:=x.toNat_lt
 have h256:256 ^ i≤256 ^ 3:=Nat.pow_le_pow_right (by omega) hi
 rw[Xi _ (by omega)]
 have hp:(((x.toNat:Nat):Int)*2 ^ (8*i))=((256 ^ i*x.toNat:Nat):Int):=by
  rw[Int.natCast_mul,Int.natCast_pow,show ((256:Nat):Int)=2 ^ 8 by rfl,← Int.pow_mul,Int.mul_comm]
 have hb:256 ^ i*x.toNat≤256 ^ 3*255:=Nat.mul_le_mul h256 (by omega)
 have h2:256 ^ i*x.toNat ||| n=256 ^ i*x.toNat+n:=by
  have e:256 ^ i=2 ^ (8*i):=by rw[Nat.pow_mul]
  rw[e] at hn ⊢
  rw[Nat.two_pow_add_eq_or_of_lt hn]
 rw[hp]
 generalize 256 ^ i*x.toNat=y at *
 have h3:n<256 ^ 3:=by omega
 rw[Xi _ (by omega),YAt _ _ (by omega) (by omega),Nat.or_comm,h2,IntKind.wrap_i64]
 omega
end
section
open Go.RowKit
variable {P:Program} {t e:TypeId} {z:Value} {bytes:Nat}
theorem Zb (z:Value) (n:Nat):(Builtin.zeroCells #[z] n).toList=List.replicate n z:=by
 rw[List.eq_replicate_iff]
 refine⟨by simp[Builtin.zeroCells],?_⟩
 intro b hb
 simp only[Builtin.zeroCells,Array.toList_map,List.mem_map] at hb
 obtain⟨i,_,rfl⟩:=hb
 have:i % (#[z]:Array Value).size=0:=by simp[Nat.mod_one]
 rw[this];rfl
end
end Go.Proofs.YthgphmfipnjllaaGreat
