/- Lemmas of the proof, with their conditions. -/
import Derived.Test.YtfedaknhecbehaaGreatProg
import Derived.WalkSpells
import Derived.WalkLawsBesides
import Derived.BigQuiet
import Derived.Deep.RegionHeld3
import Derived.Deep.AppendLies
import Derived.Laws.CopyOwn
namespace Go.Proofs.YtfedaknhecbehaaGreat
open Tryz
theorem Z {p : Prop} (h : p := by omega) : p := h
theorem sq {p : Prop} (h : p := by simp) : p := h
theorem rq {p : Prop} (h : p := by rfl) : p := h
theorem ex {A : Sort _} (a : A) : ∃ x, x = a := ⟨a, rfl⟩
theorem iq {p : Prop} (h : p := by intro x f; exact .inr (by simp at f; omega)) : p := h
theorem uq {a p : Prop} (h : a) (k : a -> p := by intro h; simpa using h) : p := k h
inductive Hz | zz
def zz : Hz := .zz
instance : Coe Hz Value := ⟨fun _ => .int .i64 0⟩
inductive Ii : Int -> Type | mk (n : Int) : Ii n
def ii (n : Int) : Ii n := .mk n
instance {n : Int} : CoeHead (Ii n) Value := ⟨fun _ => .int .i64 n⟩
inductive Pq : Nat -> Type | mk (n : Nat) : Pq n
def pq (n : Nat) : Pq n := .mk n
instance {n : Nat} : CoeHead (Pq n) Value := ⟨fun _ => .pointer (some ⟨n, 0, none⟩)⟩
inductive Aq : Nat -> Nat -> Type | mk (b o : Nat) : Aq b o
def aq (b o : Nat) : Aq b o := .mk b o
instance {b o : Nat} : CoeHead (Aq b o) Addr := ⟨fun _ => ⟨b, o, none⟩⟩
inductive Cl : World -> Addr -> Value -> Type | mk (w : World) (a : Addr) (v : Value) : Cl w a v
def cl (w : World) (a : Addr) (v : Value) : Cl w a v := .mk w a v
instance {w : World} {a : Addr} {v : Value} : CoeSort (Cl w a v) Prop := ⟨fun _ => w.cell? a = some v⟩
instance {w : World} {a : Addr} {v : Value} : CoeHead (Cl w a v) Prop := ⟨fun _ => w.cell? a = some v⟩
inductive Hn | zn
def zn : Hn := .zn
instance : Coe Hn Value := ⟨fun _ => .slice none 0 0⟩
theorem PL {A : Type} : (∀ l : List A, l.toArray.size = l.length) ∧ (∀ (a : A) l, (a :: l).length = l.length + 1) ∧ (([] : List A).length = 0) ∧ (∀ n (a : A), Array.replicate (n + 1) a = (Array.replicate n a).push a) ∧ (∀ a : A, Array.replicate 0 a = #[]) ∧ (∀ (l : List A) a, l.toArray.push a = (l ++ [a]).toArray) ∧ (∀ l k : List A, l.toArray ++ k.toArray = (l ++ k).toArray) ∧ (∀ l : List A, [] ++ l = l) ∧ (∀ (a : A) l k, a :: l ++ k = a :: (l ++ k)) := ⟨fun _ => rfl, fun _ _ => rfl, rfl, fun _ _ => Array.replicate_succ, fun _ => rfl, fun _ _ => by simp, fun _ _ => by simp, fun _ => rfl, fun _ _ _ => rfl⟩
inductive Hs : World -> Type | mk (w : World) : Hs w
def hs (w : World) : Hs w := .mk w
instance {w : World} : CoeHead (Hs w) Nat := ⟨fun _ => w.heap.size⟩
instance : Coe Nat Addr := ⟨fun b => ⟨b, 0, none⟩⟩
instance : Coe Nat Value := ⟨fun n => .int .i64 n⟩
open Go.RowKit
variable {p:Addr} {b j k cap base c s:Nat} {a:Act} {ops:Array Oper} {rest:List Oper} {o:Oper} {Q:Exit->Act->World->Prop} {v:Value} {bs:List UInt8} {B:Option Addr} {ls:List (Value×List UInt8)}
set_option linter.all false
def A2:=@List.append_toArray
def A3:=@Nat.mul_le_mul_right
def A6:=@Nat.zero_add
def AA:=@Nat.le_trans
def AB:=@List.getD_eq_getElem?_getD
def AC:=@List.getElem?_eq_getElem
def AD:=@List.mem_append
def AE:=@List.length_append
def AF:=@List.setIfInBounds_toArray
def AG:=@Nat.le_refl
def AH:=@List.take_of_length_le
def AI:=@Array.getElem?_eq_some_iff
def AJ:=@decide_eq_true
def AK:=@Go.IntKind.wrap_i64
def AL:=@if_neg
def AM:=@List.mem_cons
def AN:=@Go.World.size_alloc
def AO:=@List.take_succ_eq_append_getElem
def AP:=@if_pos
def AQ:=@List.getElem_mem
def AR:=@Go.callsIn_wide
def AS:=@Nat.zero_le
def AT:=@List.set_cons_zero
def AU:=@List.set_cons_succ
def AV:=@List.eq_of_mem_replicate
def AW:=@List.mem_or_eq_of_mem_set
def AX:=@decide_eq_false
def AY:=@decide_eq_false_iff_not
def AZ:=@Go.Oper.semAt_some
def Aa:=@List.getElem?_map
def Ab:=@Go.World.ownsRow_nil
def Ac:=@List.cons_append
def Ad:=@List.nil_append
def Ae:=@Option.some.injEq
def Af:=@Go.bodyPost_ret
def Ag:=@Array.replicate_zero
def Ah:=@Array.replicate_succ
def Ai:=@List.length_replicate
def Aj:=@Bool.false_eq_true
def Ak:=@List.mem_singleton
def Al:=@List.length_singleton
def Am:=@List.length_cons
def Ao:=@Option.map_some
def Ap:=@Nat.le_of_eq
def Ar:=@decide_eq_true_eq
def As:=@List.size_toArray
def At:=@List.flatMap_cons
def Au:=@List.length_nil
def Av:=@List.mem_cons_of_mem
def Aw:=@List.eq_nil_of_length_eq_zero
def Ay:=@List.getElem?_replicate
def Az:=@List.flatMap_append
def B1:=@Go.World.cell?_of_block
def B5:=@List.getElem?_append_left
def B7:=@List.countP_pos_iff
def B8:=@if_true
def B9:=@Int.emod_lt_of_pos
def BB:=@List.mem_append_left
def BC:=@Nat.lt_of_lt_of_le
def BD:=@Go.Proofs.Tryz.ntmps263
def BE:=@List.length_take
def BF:=@List.getElem?_eq_none
def BG:=@List.append_assoc
def BH:=@Go.Proofs.Tryz.func263
def BI:=@Go.Proofs.Tryz.isAgg3
def BJ:=@List.push_toArray
def BK:=@Int.toNat_natCast
def BL:=@List.getElem?_eq_some_iff
def BM:=@List.drop_of_length_le
def BN:=@Go.Proofs.Tryz.underlying28
def BO:=@Int.natCast_add
def BP:=@Nat.lt_or_ge
def BQ:=@List.mem_append_right
def BR:=@List.length_map
def BS:=@Bool.and_eq_true
def BT:=@List.getElem?_set
def BU:=@Go.Result.andThen_ok
def BV:=@Nat.add_zero
def BW:=@List.getElem?_drop
def BX:=@Go.Proofs.Tryz.underlying3
def BY:=@List.drop_eq_getElem_cons
def BZ:=@List.map_append
def Ba:=@List.append_nil
def Bb:=@List.getElem?_take
def Bc:=@List.getElem?_append_right
def Be:=@Go.Addr.add_mid
def Bf:=@Nat.add_assoc
def Bg:=@Bool.eq_iff_iff
def Bh:=@Nat.mod_eq_of_lt
def Bi:=@List.getElem?_cons_zero
def Bj:=@List.length_set
def Bk:=@List.mem_flatMap
def Bl:=@Int.emod_nonneg
def Bm:=@Nat.eq_zero_or_pos
def Bn:=@List.mem_of_getElem?
def Bo:=@List.getElem?_cons_succ
def Bp:=@List.take_append_drop
def Bq:=@Nat.mul_comm
def Br:=@Go.wpIn_wide
def Bs:=@List.ext_getElem?
def Bt:=@if_false
def Bu:=@List.countP_cons
def Bw:=@Go.Proofs.Tryz.underlying66
def Bx:=@Go.wpList_plain
def By:=@Go.Sem.run_pure
def Bz:=@Go.Sem.run_bind
def C0:=@List.getElem?_zipWith
def C1:=@List.countP_le_length
def C2:=@Array.length_toList
def C3:=@List.map_replicate
def C4:=@List.map_nil
def C5:=@Go.Proofs.Tryz.func237
def C6:=@List.not_mem_nil
def C7:=@Int.tmod_lt_of_pos
def C8:=@Int.tmod_eq_emod_of_nonneg
def C9:=@Int.tdiv_eq_ediv_of_nonneg
def CA:=@BitVec.toNat_ofNat
def CB:=@Go.Proofs.Tryz.underlying58
def CC:=@Go.run_underlying
def CD:=@Option.some.inj
def CE:=@Nat.min_eq_left
def CF:=@List.range_succ
def CG:=@Nat.pow_le_pow_right
def CH:=@Go.mem_ready
def CI:=@List.mem_of_mem_take
def CJ:=@List.drop_append
def CK:=@List.take_append_of_le_length
def CL:=@Nat.div_le_self
def CM:=@Int.natCast_mul
def CN:=@List.map_cons
def CO:=@beq_iff_eq
def CP:=@Nat.mod_lt
def CQ:=@BitVec.ofInt_natCast
def CR:=@Array.toList_setIfInBounds
def CS:=@Nat.sub_self
def CT:=@Nat.pow_succ
def CU:=@Nat.ne_of_gt
def CV:=@List.map_set
def CW:=@BitVec.toNat_and
def CX:=@Go.DataW.trod_int
def CY:=@List.replicate_append_replicate
def CZ:=@List.drop_replicate
def Ca:=@Go.Proofs.Tryz.ntmps355
def Cb:=@Nat.mul_assoc
def Cc:=@Nat.lt_irrefl
def Cd:=@UInt8.toNat_ofNat'
def Ce:=@Nat.add_mul
def Cf:=@List.mem_cons_self
def Cg:=@Nat.zero_mul
def Ch:=@Nat.succ_mul
def Ci:=@Nat.mul_succ
def Cj:=@List.getElem?_of_mem
def Ck:=@List.findIdx_getElem
def Cm:=@Go.Proofs.Tryz.func355
def Cn:=@List.map_toArray
def Co:=@Option.getD_some
def Cp:=@Nat.and_two_pow_sub_one_eq_mod
def Cs:=@Int.natCast_ediv
def Ct:=@Go.Proofs.Tryz.ntmps237
def Cu:=@List.take_replicate
def Cv:=@List.mem_map
def Cw:=@Go.wpOp_mono
def Cx:=@Go.callsIn_of_wp
def Cy:=@Bool.or_eq_true
def Cz:=@List.set_getElem_self
def D0:=@Go.Proofs.Tryz.ntmps267
def D6:=@Go.Proofs.Tryz.ntmps105
def D7:=@List.length_drop
def D8:=@Go.Proofs.Tryz.underlying182
def D9:=@Go.Proofs.Tryz.func9
def DB:=@Go.all_oneCell_toArray
def DC:=@Array.getElem?_eq_getElem
def DD:=@List.drop_zero
def DE:=@List.map_congr_left
def DF:=@List.getElem?_range
def DG:=@List.drop_succ_cons
def DH:=@not_or
def DI:=@Nat.div_div_eq_div_mul
def DJ:=@List.take_append
def DK:=@List.not_of_lt_findIdx
def DL:=@List.flatMap_singleton
def DM:=@Go.Proofs.Tryz.ntmps87
def DN:=@Go.Proofs.Tryz.func343
def DO:=@Eq.symm
def DP:=@List.filter_append
def DQ:=@List.countP_append
def DR:=@List.cons.injEq
def DS:=@List.length_filter_le
def DT:=@List.countP_replicate
def DU:=@Go.setRow_other
def DW:=@or_false
def DX:=@and_true
def DY:=@Nat.mul_one
def DZ:=@Go.run_storeAt_mid
def Da:=@Go.Proofs.Tryz.func87
def Db:=@Go.Lib.run_eql_slice_nil
def Dc:=@beq_eq_false_iff_ne
def Dd:=@Go.size_madeCells
def De:=@Go.setRow_heap
def Df:=@List.map_take
def Dg:=@List.filter_cons
def Dh:=@of_decide_eq_true
def Di:=@Go.Proofs.Tryz.ntmps93
def Dj:=@Go.World.size_setCell
def Dl:=@Go.Proofs.Tryz.results383
def Dm:=@Nat.one_mul
def Dn:=@List.length_eq_zero_iff
def Do:=@List.countP_nil
def Dp:=@Go.run_sliceAt_slice
def Dq:=@Go.run_append_own_at
def Dr:=@Int.natCast_pow
def Ds:=@Go.Proofs.Tryz.func93
def Dt:=@List.flatten_cons
def Du:=@List.drop_eq_nil_of_le
def Dv:=@Go.wpIn_mono
def Dw:=@Nat.mul_le_mul
def Dx:=@List.set_append_right
def Dy:=@Go.Proofs.Tryz.ntmps347
def Dz:=@Go.Proofs.Tryz.ntmps270
def EA:=@List.mem_of_mem_drop
def EB:=@List.getElem?_append
set_option maxHeartbeats 400000
structure Keep (l:List Nat) (w w':World):Prop where
 os:w'.os=w.os
 tape:w'.tape=w.tape
 output:w'.output=w.output
 size:w.heap.size<=w'.heap.size
 block:∀ k,k<w.heap.size->k∉l->w'.heap[k]? = w.heap[k]?
namespace Keep
variable {l m:List Nat} {w w1 w2:World}
theorem refl (l:List Nat) (w:World):Keep l w w:=⟨rfl,rfl,rfl,AG _,fun _ _ _=>rfl⟩
theorem trans (h:Keep l w w1) (k:Keep m w1 w2) (b:∀ x∈m,x∈l\/w.heap.size<=x):Keep l w w2:=
 ⟨k.os.trans h.os,k.tape.trans h.tape,k.output.trans h.output,AA h.size k.size,fun i hi a=>
   (k.block i (BC hi h.size) (fun c=>(b i c).elim a Z)).trans (h.block i hi a)⟩
theorem tO (h:Keep l w w1) (k:Keep [] w1 w2):Keep l w w2:=h.trans k (fun _ a=>by cases a)
theorem mono (h:Keep l w w1) (a:∀ x∈l,x∈m\/w.heap.size<=x):Keep m w w1:=
 ⟨h.os,h.tape,h.output,h.size,fun i hi b=>h.block i hi (fun c=>(a i c).elim b Z)⟩
theorem zero (h:Keep [] w w1):Keep l w w1:=h.mono (fun _ a=>by cases a)
theorem drew (h:Keep l w w1):Keep l w w1.drew:=⟨h.os,h.tape,h.output,h.size,h.block⟩
theorem drewN (h:Keep l w w1) (n:Nat):Keep l w (w1.drewN n):=⟨h.os,h.tape,h.output,h.size,h.block⟩
theorem alloc (h:Keep l w w1) (o:Obj):Keep l w (w1.alloc o):=
 h.trans (m:=[]) ⟨rfl,rfl,rfl,sq,fun k a _=>Below.heap_alloc _ _ _ a⟩ (fun _ b=>by cases b)
theorem setCell (h:Keep l w w1) (a:p.block∈l\/w.heap.size<=p.block) (u:Value):Keep l w (w1.setCell p u):=
 h.trans (m:=[p.block]) ⟨rfl,rfl,rfl,sq,fun k _ b=>Below.heap_setCell _ _ _ _ (fun e=>b (by simp[e]))⟩ (fun x c=>by
  have:x=p.block:=uq c;subst this;exact a)
theorem ofDrewN (n:Nat):Keep l w (w.drewN n):=(refl l w).drewN n
theorem cell (h:Keep l w w1) (a:b<w.heap.size) (c:b∉l) (o:Nat):w1.cell? (aq b o)=w.cell? (aq b o):=
 B1 (w:=w) (h.block b a c)
theorem frozen (h:Keep l w w1) (a:b<w.heap.size) (c:b∉l) (o:Nat):w1.frozen? ⟨b,o,none⟩=w.frozen? ⟨b,o,none⟩:=
 World.frozen?_of_block (w:=w) (h.block b a c)
theorem below (h:Keep [] w w1):Below w.heap.size w w1:=⟨h.os,h.tape,h.output,h.size,fun k a=>h.block k a sq⟩
theorem ofGrown {b:Option Nat} (a:w.grownBy w1 b):Keep b.toList w w1:=
 ⟨a.os,a.tape,a.output,a.size,fun k c d=>a.block k c (fun e=>d (by simp[<- e]))⟩
theorem lt (h:Keep l w w1) (a:b<w.heap.size):b<w1.heap.size:=BC a h.size
end Keep
inductive Hk : World -> World -> Type | mk (a b : World) : Hk a b
def kz (a b : World) : Hk a b := .mk a b
instance {a b : World} : CoeSort (Hk a b) Prop := ⟨fun _ => Keep [] a b⟩
instance {a b : World} : CoeHead (Hk a b) Prop := ⟨fun _ => Keep [] a b⟩
theorem Keep.sc {l : List Nat} {w u : World} {v : Value} (h : Keep l w u) (b o : Nat) (hb : b ∈ l := by simp) : Keep l w (u.setCell ⟨b, o, none⟩ v) := h.setCell (p := ⟨b, o, none⟩) (.inl hb) v
theorem kq {l : List Nat} {w : World} : Keep l w w := Keep.refl _ _
inductive Cr : Nat -> Array Value -> World -> Value -> Type | mk (n : Nat) (a : Array Value) (w : World) (v : Value) : Cr n a w v
def cr (n : Nat) (a : Array Value) (w : World) (v : Value) : Cr n a w v := .mk n a w v
instance {n : Nat} {a : Array Value} {w : World} {v : Value} : CoeSort (Cr n a w v) Prop := ⟨fun _ => Calls prog n a w fun e u => e = .returned v ∧ Keep [] w u⟩
instance {n : Nat} {a : Array Value} {w : World} {v : Value} : CoeHead (Cr n a w v) Prop := ⟨fun _ => Calls prog n a w fun e u => e = .returned v ∧ Keep [] w u⟩
inductive Cq : Nat -> Array Value -> World -> Value -> Type | mk (n : Nat) (a : Array Value) (w : World) (v : Value) : Cq n a w v
def cq (n : Nat) (a : Array Value) (w : World) (v : Value) : Cq n a w v := .mk n a w v
instance {n : Nat} {a : Array Value} {w : World} {v : Value} : CoeSort (Cq n a w v) Prop := ⟨fun _ => Calls prog n a w fun e u => e = .returned v ∧ w = u⟩
instance {n : Nat} {a : Array Value} {w : World} {v : Value} : CoeHead (Cq n a w v) Prop := ⟨fun _ => Calls prog n a w fun e u => e = .returned v ∧ w = u⟩
theorem mq {P : Program} {f : Nat} {vs : Array Value} {r : Ending} {w u : World} {Q : Ending -> World -> Prop} (h : Calls P f vs w fun e w' => e = r /\ u = w') (k : Q r u) : Calls P f vs w Q := h.mono (by rintro _ _ ⟨rfl, rfl⟩; exact k)
def Blk (w:World) (g:Nat) (t:TypeId) (cs:Array Value):Prop:=w.heap[g]? = some (.cells cs t (0,0))
namespace Blk
variable {w w':World} {g:Nat} {t:TypeId} {cs:Array Value}
theorem lt (h:Blk w g t cs):g<w.heap.size:=by
 rcases BP g w.heap.size with a | b
 . exact a
 unfold Blk at h;rw[Array.getElem?_eq_none b] at h;cases h
theorem cell (h:Blk w g t cs) (i:Nat):w.cell? (aq g i)=cs[i]? := cell_of_row w g i cs t (0,0) h
theorem frozen (h:Blk w g t cs) (i:Nat):w.frozen? ⟨g,i,none⟩=false:=by
 unfold Blk at h;simp[World.frozen?,h]
theorem new (w:World) (t:TypeId) (cs:Array Value):Blk (w.alloc (.cells cs t)) w.heap.size t cs:=heap_alloc_new w _
theorem drew (h:Blk w g t cs):Blk w.drew g t cs:=h
theorem drewN (h:Blk w g t cs) (n:Nat):Blk (w.drewN n) g t cs:=h
theorem alloc (h:Blk w g t cs) (o:Obj):Blk (w.alloc o) g t cs:=(Below.heap_alloc w o g h.lt).trans h
theorem set (h:Blk w g t cs) (i:Nat) (u:Value):Blk (w.setCell (aq g i) u) g t (cs.setIfInBounds i u):=by
 unfold Blk at h ⊢;simp[World.setCell,Array.getElem?_modify,h]
theorem far (h:Blk w g t cs) (a:g≠p.block) (u:Value):Blk (w.setCell p u) g t cs:=(Below.heap_setCell w p u g a).trans h
theorem keep {l:List Nat} (h:Blk w g t cs) (a:Keep l w w') (b:g∉l):Blk w' g t cs:=(a.block g h.lt b).trans h
theorem kO (h:Blk w g t cs) (a:kz w w'):Blk w' g t cs:=h.keep a sq
theorem ne_ {b:Nat} {c:TypeId} {d:Array Value} (h:Blk w g t cs) (a:Blk w b c d) (e:t≠c):g≠b:=by
 rintro rfl;unfold Blk at h a;rw[h] at a;injection a with a;injection a with _ ht;exact e ht
end Blk
def Rd (w:World) (A:Option Addr) (n:Nat) (xs:List Value):Prop:=
 xs.length=n/\(0<n->∃ b o,A=some ⟨b,o,none⟩/\b<w.heap.size/\∀ j u,xs[j]? = some u->cl w (aq b (o+j)) u)
namespace Rd
variable {w w':World} {A:Option Addr} {n:Nat} {xs:List Value}
theorem at_ (h:Rd w A n xs) (c:j<n):∃ b o u,A=some ⟨b,o,none⟩/\xs[j]? = some u/\b<w.heap.size/\cl w (aq b (o+j)) u:=by
 obtain⟨b,o,rfl,d,e⟩:=h.2 Z;have a:xs[j]? = some (xs[j]'(by rw[h.1];exact c)):=AC _;exact⟨b,o,_,rfl,a,d,e j _ a⟩
theorem keepIf {l:List Nat} (h:Rd w A n xs) (c:Keep l w w') (f:∀ a,A=some a->a.block∉l):Rd w' A n xs:=
 ⟨h.1,fun g=>by
   obtain⟨b,o,e,d,i⟩:=h.2 g;exact⟨b,o,e,c.lt d,fun j u k=>(c.cell d (f _ e) _).trans (i j u k)⟩⟩
theorem keep (h:Rd w A n xs) (a:kz w w'):Rd w' A n xs:=h.keepIf a sq
theorem drewN (h:Rd w A n xs) (k:Nat):Rd (w.drewN k) A n xs:=h
theorem drew (h:Rd w A n xs):Rd w.drew A n xs:=h
theorem nil (w:World) (A:Option Addr):Rd w A 0 []:=⟨rfl,fun h=>absurd h Z⟩
theorem cut (h:Rd w A n xs) (e:k<=n) (f:n<=cap):Rd w (if cap=k then A else A.map (·.add k)) (n-k) (xs.drop k):=by
 refine⟨by rw[D7,h.1],fun g=>?_⟩;obtain⟨b,o,rfl,a,c⟩:=h.2 Z;rw[AL Z];refine⟨b,o+k,by simp[Be],a,fun j u d=>?_⟩;rw[show o+k+j=o+(k+j) from Z];exact c _ u (by rw[<- d,BW])
theorem take (h:Rd w A n xs) (e:k<=n):Rd w A k (xs.take k):=by
 refine⟨by rw[BE,h.1];omega,fun f=>?_⟩;obtain⟨b,o,rfl,c,d⟩:=h.2 Z;refine⟨b,o,rfl,c,fun j u a=>d j u ?_⟩;rw[Bb] at a
 split at a
 . exact a
 cases a
theorem of_own {e:TypeId} (h:w.ownsRow base e 1 (.slice A n c) n xs):Rd w A n xs:=by
 refine⟨uq h.1,fun a=>?_⟩;obtain⟨g,cap,b,_,d⟩:=h.form a;have f:A=some ⟨g,0,none⟩:=by injection b
 subst f;refine⟨g,0,rfl,d,fun j u i=>?_⟩;have:=h.cells (g:=g) rfl j u i
 rwa [Be] at this
theorem of_blk {g:Nat} {t:TypeId} {cs:Array Value} (h:Blk w g t cs) (b:n<=cs.size):Rd w (some g) n (cs.toList.take n):=by
 refine⟨by simp;omega,fun _=>⟨g,0,rfl,h.lt,fun j u a=>?_⟩⟩;rw[h.cell];rw[Bb] at a
 split at a
 . simpa using a
 cases a
end Rd
def by8 (c:UInt8):Value:=.int .u8 c.toNat
def bys (bs:List UInt8):List Value:=bs.map by8
def i64 (z:Int):Value:=.int .i64 z
def VM (zs:List Int):List Value:=zs.map i64
@[simp] theorem length_bys (bs:List UInt8):(bys bs).length=bs.length:=by simp[bys]
@[simp] theorem length_ints (bs:List Int):(VM bs).length=bs.length:=by simp[VM]
theorem Yr (bs:List UInt8) (j:Nat) (h:j<bs.length):(bys bs)[j]? = some (by8 bs[j]):=by simp[bys,h]
theorem Qj (a b:List UInt8):bys (a++b)=bys a++bys b:=by simp[bys]
theorem Zb (a:List UInt8) (n:Nat):(bys a).take n=bys (a.take n):=by simp[bys,Df]
theorem Jn (a:List UInt8) (n:Nat):(bys a).drop n=bys (a.drop n):=by simp[bys,List.map_drop]
theorem Zi (bs:List UInt8):∀ u∈bys bs,u.oneCell'=true:=by
 intro u a;simp only[bys,Cv] at a;obtain⟨c,_,rfl⟩:=a;rfl
theorem YAf (bs:List Int):∀ u∈VM bs,u.oneCell'=true:=by
 intro u a;simp only[VM,Cv] at a;obtain⟨c,_,rfl⟩:=a;rfl
theorem JB {p:Prop} (h:p):Hid p:=h
theorem JA {p:Prop} (h:Hid p):p:=h
theorem XBY (w:World) (a b:Nat):∃ k,w.drewN k=(w.drewN a).drewN b:=⟨a+b,sq⟩
theorem VL {k:IntKind} {a b:Int} (h:a=b):Ending.returned (.int k a)=.returned (.int k b):=by rw[h]
theorem VF {a b:Bool} (h:a=b):Ending.returned (.bool a)=.returned (.bool b):=by rw[h]
section
open Go.RowKit
structure Elem (P:Program) (t e:TypeId) (z:Value) (bytes:Nat):Prop where
 und:P.underlying t=some (.slice e)
 info:∃ i,P.info? e=some i/\i.zero=some z/\i.size=1/\i.bytes=bytes
 one:z.cells=#[z]
theorem Elem.of {P:Program} {t e:TypeId} {z:Value} {bytes:Nat} (a:P.underlying t=some (.slice e)) (h:(P.info? e).map (fun i=>(i.zero,i.size,i.bytes))=some (some z,1,bytes)) (b:z.cells=#[z]):Elem P t e z bytes:=by
 obtain⟨i,c,d,f,g⟩:=info_parts h;exact⟨a,⟨i,c,d,f,g⟩,b⟩
theorem VAL (z:Value) (n:Nat):madeCells #[z] n=Array.replicate n z:=by
 rw[<- Array.toList_inj,toList_madeCells_one];simp
variable {P:Program} {t e:TypeId} {z:Value} {bytes:Nat}
theorem Elem.run_make (E:Elem P t e z bytes) (a b:IntKind) (n c:Nat) (k:n<=c) (l:bytes*c<=281474976710656) (m:c<=9223372036854775807) (w:World) :
 (Instr.makeSlice t (.int a (n:Int)) (.int b (c:Int))).run P w=.ok (.slice (some w.heap.size) n c) (w.alloc (.cells (Array.replicate c z) e)):=by
 obtain⟨i,hi,f,g,rfl⟩:=E.info
 have j:(i.bytes:Int)*(c:Int)<=281474976710656:=by
  have h:((i.bytes*c:Nat):Int)<=281474976710656:=Z
  rwa [CM] at h
 have d:=Go.run_make (P:=P) w t e i z E.und hi f a b n c Z Z j Z;simp only[BK,g,DY,E.one,VAL] at d;exact d
theorem Elem.wp_make (E:Elem P t e z bytes) {w:World}
 (f:o.guard=none) (l c:Operand) (g:o.op=Op.makeSlice t l c) (b d:IntKind) (L C:Int) (m:Nat) (i:a.eval l=.int b L) (j:a.eval c=.int d C) (k:L=(m:Int)) (n:C=(m:Int))
 (p:bytes*m<=281474976710656) (r:m<=9223372036854775807)
 (h:wpList P ops Q rest (a.put o.dst (.slice (some w.heap.size) m m)) (w.alloc (.cells (Array.replicate m z) e))) :
 wpList P ops Q (o :: rest) a w:=by
 refine Bx f fun K s=>?_;have u:=E.run_make b d m m (AG _) p r w;subst k;subst n;unfold Oper.wp;simp[execOp,g,i,j,u,Result.andThen];exact s _ _ h
def cutA (A:Option Addr) (k cap:Nat):Option Addr:=if cap=k then A else A.map (·.add k)
theorem XBB (A:Option Addr) (cap:Nat):cutA A 0 cap=A:=by
 unfold cutA
 split
 . rfl
 cases A <;> simp[Addr.add]
theorem ZAu (g o k cap:Nat) (h:cap≠k):cutA (some (aq g o)) k cap=some ⟨g,o+k,none⟩:=by
 unfold cutA;rw[AL h];simp[Be]
theorem Rd.cutA {w:World} {A:Option Addr} {n:Nat} {xs:List Value} (h:Rd w A n xs) (a:k<=n) (b:n<=cap):Rd w (cutA A k cap) (n-k) (xs.drop k):=h.cut a b
theorem Xs (A:Option Addr) (l h cap:Nat):sliced A l h cap 1=.slice (Go.Proofs.YtfedaknhecbehaaGreat.cutA A l cap) (h-l) (cap-l):=by
 unfold sliced Go.Proofs.YtfedaknhecbehaaGreat.cutA;rw[DY]
theorem Elem.run_size (E:Elem P t e z bytes) (w:World):(sizeOf (P.elem t)).run P w=.ok 1 w:=by
 obtain⟨i,hi,c,a,d⟩:=E.info;have b:P.elem t=e:=by simp[Program.elem,E.und]
 simp[sizeOf,typeInfo,b,hi,a]
theorem Elem.und' (E:Elem P t e z bytes):P.underlying t=some (.slice (P.elem t)):=by
 have a:P.elem t=e:=by simp[Program.elem,E.und]
 rw[a];exact E.und
theorem Elem.run_lh (E:Elem P t e z bytes) (A:Option Addr) (n cap:Nat) (a b:IntKind) (l h:Int) (c:0<=l) (d:l<=h) (f:h<=cap) (w:World) :
 (Instr.sliceAt t (.slice A n cap) (some (.int a l)) (some (.int b h)) none).run P w=.ok (.slice (cutA A l.toNat cap) (h.toNat-l.toNat) (cap-l.toNat)) w:=by
 rw[Dp _ _ _ _ _ _ E.und',run_slice_lh _ _ _ _ _ E.und' _ _ _ _ c d f,E.run_size];simp only[Result.andThen,Xs]
theorem Elem.run_l (E:Elem P t e z bytes) (A:Option Addr) (n cap:Nat) (a:IntKind) (l:Int) (b:0<=l) (c:l<=n) (w:World) :
 (Instr.sliceAt t (.slice A n cap) (some (.int a l)) none none).run P w=.ok (.slice (cutA A l.toNat cap) (n-l.toNat) (cap-l.toNat)) w:=by
 rw[Dp _ _ _ _ _ _ E.und',run_slice_l _ _ _ _ _ E.und' _ _ b c,E.run_size];simp only[Result.andThen,Xs]
theorem Elem.run_h (E:Elem P t e z bytes) (A:Option Addr) (n cap:Nat) (a:IntKind) (h:Int) (b:0<=h) (c:h<=cap) (w:World) :
 (Instr.sliceAt t (.slice A n cap) none (some (.int a h)) none).run P w=.ok (.slice A h.toNat cap) w:=by
 rw[Dp _ _ _ _ _ _ E.und',run_slice_h _ _ _ _ _ E.und' _ _ b c,E.run_size];simp only[Result.andThen,Xs,XBB,Nat.sub_zero]
theorem QQ {w:World}
 (b:o.guard=none) (x:Operand) (lo hi:Option Operand) (c:o.op=Op.slice t x lo hi none) (v:Value)
 (d:∀ W,(Instr.sliceAt t (a.eval x) (lo.map a.eval) (hi.map a.eval) none).run P W=.ok v W)
 (h:wpList P ops Q rest (a.put o.dst v) w):wpList P ops Q (o :: rest) a w:=by
 refine Bx b fun K e=>?_;unfold Oper.wp;have f:=d w;simp only[execOp,c];simp[f,Result.andThen];exact e _ _ h
theorem Qt (E:Elem P t e z bytes) {w:World} (a:TypeId) {n:Nat} {xs:List Value} (b:w.ownsRow base e 1 v n xs) (c:Nat):(Builtin.append_ #[t,t] a #[v,.slice none 0 c]).run P w=.ok v w:=by
 obtain⟨i,hi,f,h,j⟩:=E.info;rcases b.2 with⟨rfl,rfl⟩ | ⟨g,cap,k,rfl,_,_,d,_⟩
 . simp[Builtin.append_,CC E.und,sizeOf,typeInfo,hi,Builtin.lenOf,Builtin.firstCells]
 simp[Builtin.append_,CC E.und,sizeOf,typeInfo,hi,Builtin.lenOf,Builtin.firstCells,d,storeCells]
theorem Elem.run_app (E:Elem P t e z bytes) (w:World) (base:Nat) (g:TypeId) (v:Value) (n:Nat) (xs:List Value) (h:w.ownsRow base e 1 v n xs)
 (A:Option Addr) (m c:Nat) (d:List Value) (k:Rd w A m d) (f:∀ u∈d,u.oneCell'=true)
 (D:n+m<=9223372036854775807) (F:(n+m)*bytes<=140737488355328) (G:base<=w.heap.size) :
 ∃ a w',(Builtin.append_ #[t,t] g #[v,.slice A m c]).run P w=.ok a w'/\w'.ownsRow base e 1 a (n+m) (xs++d)/\Keep v.ownBlock.toList w w' /\
   (a.ownBlock=v.ownBlock\/a.ownBlock=some w.heap.size)/\(a=.slice none 0 0↔v=.slice none 0 0/\m=0):=by
 rcases Bm m with l | l
 . subst l
   have I:d=[]:=Aw k.1;subst I;rcases A with _ | ad
   . exact⟨v,w,Qt E g h c,uq h,kq,.inl rfl,sq⟩
   obtain⟨i,hi,p,r,H⟩:=E.info;obtain⟨a,w',f,s,y,B,C⟩:=Dq (P:=P) w base t g e i z 1 bytes E.und hi p r H (by rw[E.one];rfl) Z v n xs h ad 0 c [] rfl sq sq (by simpa [maxLen] using D) F G;exact⟨a,w',f,s,Keep.ofGrown y,C,B⟩
 obtain⟨b,o,rfl,H,J⟩:=k.2 l;obtain⟨i,hi,p,r,K⟩:=E.info;obtain⟨a,w',f,s,y,B,C⟩:=Dq (P:=P) w base t g e i z 1 bytes E.und hi p r K (by rw[E.one];rfl) Z v n xs h ⟨b,o,none⟩ m c d (uq k.1) (fun j u L=>by rw[Be];exact J j u L) f (by simpa [maxLen] using D) F G;exact⟨a,w',f,s,Keep.ofGrown y,C,B⟩
theorem Elem.wp1_app (E:Elem P t e z bytes) {w:World} {K:Act->World->Prop} (s x:Operand)
 (f:o.op=.call { callee:=.builtin .append,args:=#[s,x],argTypes:=#[t,t] })
 (base:Nat) (v:Value) (n:Nat) (xs:List Value) (g:a.eval s=v) (i:w.ownsRow base e 1 v n xs)
 (A:Option Addr) (m c:Nat) (d:List Value) (j:a.eval x=.slice A m c) (k:Rd w A m d) (l:∀ u∈d,u.oneCell'=true)
 (p:n+m<=9223372036854775807) (r:(n+m)*bytes<=140737488355328) (y:base<=w.heap.size)
 (h:∀ b w',w'.ownsRow base e 1 b (n+m) (xs++d)->Keep v.ownBlock.toList w w'->(b.ownBlock=v.ownBlock\/b.ownBlock=some w.heap.size)->(b=.slice none 0 0↔v=.slice none 0 0/\m=0)->K (a.put o.dst b) w'):o.wp P a w K Q:=by
 obtain⟨b,w',B,C,D,F,G⟩:=E.run_app w base o.type v n xs i A m c d k l p r y;unfold Oper.wp execOp;simp only[f,resolve,invoke,builtin,Bz,By,BU,Cn,CN,C4,g,j,B];exact h b w' C D F G
theorem Elem.wp_app (E:Elem P t e z bytes) {w:World} (f:o.guard=none) (s x:Operand)
 (g:o.op=.call { callee:=.builtin .append,args:=#[s,x],argTypes:=#[t,t] })
 (base:Nat) (v:Value) (n:Nat) (xs:List Value) (i:a.eval s=v) (j:w.ownsRow base e 1 v n xs)
 (A:Option Addr) (m c:Nat) (d:List Value) (k:a.eval x=.slice A m c) (l:Rd w A m d) (p:∀ u∈d,u.oneCell'=true)
 (r:n+m<=9223372036854775807) (y:(n+m)*bytes<=140737488355328) (B:base<=w.heap.size)
 (h:∀ b w',w'.ownsRow base e 1 b (n+m) (xs++d)->Keep v.ownBlock.toList w w'->(b.ownBlock=v.ownBlock\/b.ownBlock=some w.heap.size)->(b=.slice none 0 0↔v=.slice none 0 0/\m=0)->wpList P ops Q rest (a.put o.dst b) w'):wpList P ops Q (o :: rest) a w:=
 Bx f fun _ C=>E.wp1_app s x g base v n xs i j A m c d k l p r y B fun b w' D F G H=>C _ _ (h b w' D F G H)
theorem Elem.wp_copy (E:Elem P t e z bytes) {w:World} (G:o.guard=none) (d s:Operand)
 (H:o.op=.call { callee:=.builtin .copy,args:=#[d,s],argTypes:=#[t,t] })
 (D A:Option Addr) (c u f y:Nat) (I:a.eval d=.slice D c u) (J:a.eval s=.slice A f y)
 (g n:Nat) (p:List Value) (r:TypeId) (B:Blk w g r p.toArray) (L:0<c->D=some ⟨g,n,none⟩) (W:n+c<=p.length)
 (ys:List Value) (C:Rd w A f ys) (M:∀ v∈ys.take c,v.oneCell'=true)
 (h:∀ w',Blk w' g r (splice p n (ys.take c)).toArray->Keep [g] w w'->wpList P ops Q rest (a.put o.dst (goInt (Nat.min f c))) w') :
 wpList P ops Q (o :: rest) a w:=by
 obtain⟨i,hi,X,N,Y⟩:=E.info;have K:(P.info? e).map (·.size)=some 1:=by rw[hi];simp[N]
 have F:(ys.take c).length=Nat.min f c:=by rw[BE,C.1];exact Nat.min_comm _ _
 rw[<- F] at h;by_cases m:(ys.take c).length=0
 . have O:ys.take c=[]:=Aw m
   refine wpList_copy_nothing G d s t t H e E.und K D A c u f y I J (by rw[<- F];exact m) ?_;have:=h w (by rw[O];simpa [splice] using B) kq
   rwa [m] at this
 have R:0<c:=by
  rcases Bm c with e | e
  . subst e;simp at m
  exact e
 have S:0<f:=by
  rcases Bm f with e | e
  . subst e
    have:=C.1;simp only[BE] at m;omega
  exact e
 obtain rfl:=L R;obtain⟨b,T,rfl,hb,U⟩:=C.2 S;refine wpList_copy_own G d s t t H e E.und K g n c u ⟨b,T,none⟩ f y I J p.toArray r B (ys.take c) F ?_ ?_ ?_ ?_
 . intro j v l
   rw[Be];refine U j v ?_;rw[Bb] at l
   split at l
   . exact l
   cases l
 . simp only[BE,As]
   omega
 . intro v l
   exact M v l
 refine h _ ?_ ?_
 . show _=_
   simpa [splice] using De w g _ _ r _ B
 exact⟨rfl,rfl,rfl,by simp[World.setRow],fun k hk V=>DU w g k _ (uq V)⟩
theorem VAo {a:Type} (L cs:List a) (h:L.length=cs.length):splice L 0 cs=cs:=by simp[splice,<- h]
theorem Zk {w:World} {g n:Nat} {e:TypeId} {xs:List Value} {cs:Array Value} (h:Blk w g e cs) (b:base<=g) (d:n<=c) (f:c<=9223372036854775807) (i:cs.size=c) (a:cs.toList.take n=xs) :
 w.ownsRow base e 1 (.slice (some g) n c) n xs:=by
 refine⟨?_,.inr ⟨g,c,cs,rfl,b,h,d,by simpa [maxLen] using f,Z,uq a⟩⟩;rw[<- a];simp;omega
theorem XS {w:World} {g n:Nat} {e:TypeId} {xs:List Value} {cs:Array Value} (h:Blk w g e cs) (c:base<=g) (d:n<=9223372036854775807) (a:cs.size=n) (b:cs.toList=xs) :
 w.ownsRow base e 1 (.slice (some g) n n) n xs:=
 Zk h c (AG _) d a (by rw[b];exact AH (by rw[<- b];simp[a]))
theorem ZC {w:World} {base':Nat} {e:TypeId} {n:Nat} {xs:List Value} (h:w.ownsRow base e s v n xs) (d:base'<=base):w.ownsRow base' e s v n xs:=by
 refine⟨h.1,?_⟩;rcases h.2 with a | ⟨g,cap,b,c,f,r⟩
 . exact .inl a
 exact .inr ⟨g,cap,b,c,Z,r⟩
theorem XB {w w':World} {e:TypeId} {n:Nat} {xs:List Value} {l:List Nat} (h:w.ownsRow base e s v n xs) (a:Keep l w w') (b:∀ g,v.ownBlock=some g->g∉l):w'.ownsRow base e s v n xs:=by
 refine⟨h.1,?_⟩;rcases h.2 with c | ⟨g,cap,d,rfl,f,i,r⟩
 . exact .inl c
 exact .inr ⟨g,cap,d,rfl,f,Blk.keep (g:=g) i a (b g rfl),r⟩
theorem QB {w w':World} {e:TypeId} {n:Nat} {xs:List Value} (h:w.ownsRow base e s v n xs) (a:kz w w'):w'.ownsRow base e s v n xs:=XB h a sq
theorem ZB {w:World} {e:TypeId} {n:Nat} {xs:List Value} (h:w.ownsRow base e s v n xs):∃ A c,v=.slice A n c/\n<=c/\c<=9223372036854775807/\(A=none->n=0/\c=0)/\(∀ a,A=some a->∃ g,a=⟨g,0,none⟩):=by
 rcases h.2 with⟨rfl,rfl⟩ | ⟨g,cap,i,rfl,_,_,d,f,_⟩
 . exact⟨_,_,rfl,Z,Z,sq,sq⟩
 exact⟨_,_,rfl,d,by simpa [maxLen] using f,sq,by intro a b;injection b with b;exact⟨g,b.symm⟩⟩
theorem JT (w:World) (x:Value) (e:TypeId):Rd (w.alloc (.cells #[x] e)) (some w.heap.size) 1 [x]:=by
 have:=Rd.of_blk (n:=1) (Blk.new w e #[x]) sq;simpa using this
theorem KD {w:World} {e:TypeId} {n:Nat} {xs:List Value} (h:w.ownsRow base e s v n xs) (o:Obj):(w.alloc o).ownsRow base e s v n xs:=
 QB h ((Keep.refl [] w).alloc o)
theorem YAS {w:World} {e:TypeId} {n:Nat} {xs:List Value} (h:w.ownsRow base e s v n xs):∀ g∈v.ownBlock.toList,base<=g:=by
 intro g a;exact(h.lt g (uq a)).1
end
def le (k n:Nat):List UInt8:=(List.range k).map fun i=>UInt8.ofNat (n / 256 ^ i % 256)
theorem le_succ (k n:Nat):le (k+1) n=le k n++[UInt8.ofNat (n / 256 ^ k % 256)]:=by simp[le,CF]
@[simp] theorem length_le (k n:Nat):(le k n).length=k:=by simp[le]
@[simp] theorem le_zero (n:Nat):le 0 n=[]:=rfl
def laid {α:Type} (bs:List α) (a:Nat) (ns:List α):List α:=bs.take a++ns++bs.drop (a+ns.length)
@[simp] theorem laid_nil {b:Type} (bs:List b) (a:Nat):laid bs a []=bs:=by simp[laid]
theorem YI {b:Type} (bs:List b) (a:Nat) (c:List b) (h:a+c.length<=bs.length):(laid bs a c).length=bs.length:=by
 simp[laid];omega
theorem YBK {c:Type} (bs:List c) (a:Nat) (b:List c) (x:c) (h:a+b.length<bs.length):laid bs a (b++[x])=(laid bs a b).set (a+b.length) x:=by
 unfold laid;rw[Dx _ _ (by simp;omega)];have d:a+b.length-(bs.take a++b).length=0:=by simp;omega
 rw[d,BY h,AT,AE];simp[Bf]
theorem QBK {d:Type} (bs:List d) (a:Nat) (b c:List d) (h:a+b.length+c.length<=bs.length):laid (laid bs a b) (a+b.length) c=laid bs a (b++c):=by
 have e:(bs.take a++b).length=a+b.length:=by simp;omega
 unfold laid;rw[CK Z,AH Z,CJ,List.drop_drop];rw[BM Z,Ad,e,AE];simp only[BG]
 congr 4
 omega
theorem QBR {b d:Type} (f:b->d) (bs:List b) (a:Nat) (c:List b):(laid bs a c).map f=laid (bs.map f) a (c.map f):=by
 simp[laid,Df,List.map_drop]
theorem QAM (bs:List UInt8) (a:Nat) (b:List UInt8):bys (laid bs a b)=laid (bys bs) a (bys b):=by simp[bys,QBR]
theorem JBi (bs:List UInt8) (i:Nat) (x:UInt8):bys (bs.set i x)=(bys bs).set i (by8 x):=by simp[bys,CV]
theorem Kv {b:Type} (bs a:List b) (h:a.length=bs.length):laid bs 0 a=a:=by simp[laid,h]
theorem XX {w:World} {g n:Nat} {e:TypeId} {xs:List Value} (h:w.ownsRow base e 1 (.slice (some g) n c) n xs) (i:Nat) (u:Value) :
 (w.setCell (aq g i) u).ownsRow base e 1 (.slice (some g) n c) n (xs.set i u):=by
 rcases h.2 with⟨a,_⟩ | ⟨o,cap,b,a,d,f,j,k,l,m⟩
 . cases a
 cases a;refine Zk (Blk.set (t:=e) f i u) d j (by simpa [maxLen] using k) (uq l) ?_;rw[CR,List.take_set,show b.toList.take n=xs from uq m]
theorem QJ {w:World} {g n:Nat} {e:TypeId} {xs:List Value} (h:w.ownsRow base e 1 (.slice (some g) n c) n xs) {i:Nat} {u:Value} (a:xs[i]? = some u):cl w (aq g i) u:=by
 rcases h.2 with⟨b,_⟩ | ⟨j,cap,k,b,l,d,m,o,p,f⟩
 . cases b
 cases b;rw[Blk.cell (t:=e) d];rw[<- f,Bb] at a
 split at a
 . simpa using a
 cases a
theorem XI {w:World} {g n:Nat} {e:TypeId} {xs:List Value} (h:w.ownsRow base e 1 (.slice (some g) n c) n xs) (i:Nat):w.frozen? ⟨g,i,none⟩=false:=by
 rcases h.2 with⟨a,_⟩ | ⟨d,cap,f,a,j,b,k,l,m,o⟩
 . cases a
 cases a;exact Blk.frozen (t:=e) b i
theorem JBM {w:World} {g n:Nat} {e:TypeId} {xs:List Value} (h:w.ownsRow base e 1 (.slice (some g) n c) n xs):g<w.heap.size:=(h.lt g rfl).2
theorem QN {w:World} {n:Nat} {e:TypeId} {xs:List Value} (h:w.ownsRow base e 1 v n xs) (f:0<n):∃ g c,v=.slice (some (aq g 0)) n c/\n<=c:=by
 rcases h.2 with⟨rfl,i⟩ | ⟨a,cap,j,b,k,l,d,m,o,p⟩
 . omega
 exact⟨a,cap,b,d⟩
theorem JAN {w:World} {g n a:Nat} {e:TypeId} {b:List UInt8} (h:w.ownsRow base e 1 (.slice (some g) n c) n (bys (laid bs a b))) (d:a+b.length<bs.length) (x:UInt8) (i:Nat) (hi:i=a+b.length) :
 (w.setCell (aq g i) (by8 x)).ownsRow base e 1 (.slice (some g) n c) n (bys (laid bs a (b++[x]))):=by
 subst hi;rw[YBK _ _ _ _ d,JBi];exact XX h _ _
theorem VBa (a:Int) (b:0<=a) (e:a<=9223372036854775807):bits BinOp.and IntKind.i64 a 255=a % 256:=by
 obtain⟨k,rfl⟩:=Int.eq_ofNat_of_zero_le b;show IntKind.i64.wrap ((BitVec.ofInt 64 (k:Int) &&& BitVec.ofInt 64 255).toNat:Int)=_
 have c:(BitVec.ofInt 64 (k:Int)).toNat=k:=by
  rw[CQ,CA];exact Bh Z
 have d:(BitVec.ofInt 64 255).toNat=2 ^ 8-1:=by decide
 rw[CW,c,d,Cp,AK];omega
theorem KBI (n i:Nat) (b:n<=9223372036854775807) (hi:i<=7):Value.int .u8 (bits BinOp.and IntKind.i64 (((n:Nat):Int) / 2 ^ (8*i)) 255 % 256)=by8 (UInt8.ofNat (n / 256 ^ i % 256)):=by
 have a:((2:Int) ^ (8*i))=((256 ^ i:Nat):Int):=by
  rw[Dr,show ((256:Nat):Int)=2 ^ 8 from rq,Int.pow_mul]
 have c:n / 256 ^ i<=n:=CL _ _;rw[a,<- Cs];generalize n / 256 ^ i=q at *;rw[VBa _ Z Z];unfold by8;rw[Cd]
 congr 1
theorem YAs (n a b:Int) (w:World) :
 cq 147 #[ii n,ii a,ii b] w (.bool (decide (a<=n/\n<=b))):=by
 by_cases c:a<=n
 . by_cases d:n<=b
   all_goals
    go_enter func147,ntmps147
    go_wp2
    go_ret;exact⟨by simp[c,d],rfl⟩
 go_enter func147,ntmps147
 go_wp2
 go_ret;exact⟨by simp;omega,rfl⟩
theorem KBS (n m:Int) (a:0<m):n % m=if n.tmod m<0 then n.tmod m+m else n.tmod m:=by
 have e:=C7 n a
 have f : -m<n.tmod m:=by
  have:=C7 (-n) a;rw[Int.neg_tmod] at this;omega
 have g:=Int.mul_tdiv_add_tmod n m
 have b:∀ r:Int,0<=r->r<m->(∃ q,m*q+r=n)->n % m=r:=by
  intro r c d ⟨q,hq⟩;rw[<- hq,Int.add_comm,Int.add_mul_emod_self_left,Int.emod_eq_of_lt c d]
 split
 . refine b _ Z Z ⟨n.tdiv m-1,?_⟩
   rw[Int.mul_sub];omega
 exact b _ Z Z ⟨n.tdiv m,Z⟩
theorem XBE (n m:Int) (w:World) (a:0<m) (c:m<=9223372036854775807) :
 cq 104 #[ii n,ii m] w (ii (n % m)):=by
 have k:=KBS n m a;have d:=C7 n a
 have e : -m<n.tmod m:=by
  have:=C7 (-n) a;rw[Int.neg_tmod] at this;omega
 have K:=JB k;clear k;go_enter func104,ntmps104
 go_wp2
 . have b:n.tmod m<0:=by assumption
   go_ret;refine⟨VL ?_,rfl⟩;rw[JA K,AP b]
 have b:0<=n.tmod m:=by assumption
 go_ret;refine⟨VL ?_,rfl⟩;rw[JA K,AL Z]
theorem VW (n m:Int) (w:World) (a:0<m) (b:m<=9223372036854775807) :
 cq 25 #[ii n,ii m] w (ii (n % m)):=by
 go_enter func25,ntmps25;go_wp2_with (go_at_call 104;apply mq (XBE _ _ _ a b));go_ret;exact⟨rfl,rfl⟩
theorem XBI {A:Option Addr} {n m:Nat} (c d:Nat) (xs ys:List UInt8) {w:World} (r:Rd w A n (bys xs)) (s:Rd w B m (bys ys)) (N:n<=9223372036854775807) (O:m<=9223372036854775807) :
 Calls prog 114 #[.slice A n c,.slice B m d] w fun e w'=>e=.returned (.bool (decide (xs=ys)))/\∃ k,w.drewN k=w':=by
 have u:xs.length=n:=uq r.1;have v:ys.length=m:=uq s.1;by_cases I:n=m
 . subst I
   have y:=JB u;have z:=JB v;clear u v;go_enter func114,ntmps114
   go_wp2
   go_loopw [5] (fun i wr=>∃ k:Nat,k<=n/\i=.int .i64 k/\Hid (xs.take k=ys.take k)/\∃ t,wr=w.drewN t) (fun i _=>n-(intOf i).toNat)
   case atStart=>exact⟨0,AS _,rfl,by simp[Hid],0,rfl⟩
   obtain⟨k,P,rfl,C,t,rfl⟩:=hrel;by_cases a:k<n
   . obtain⟨b1,Q,J,rfl,b,_,K⟩:=r.at_ a
     obtain⟨R,S,L,rfl,f,_,M⟩:=s.at_ a;have D:k<xs.length:=by rw[JA y];exact a
     have E:k<ys.length:=by rw[JA z];exact a
     rw[Yr _ _ D] at b;rw[Yr _ _ E] at f;obtain⟨g,l⟩:=ex (xs[k]);obtain⟨j,o⟩:=ex (ys[k]);rw[<- l] at b;rw[<- o] at f;obtain rfl:by8 g=J:=uq b;obtain rfl:by8 j=L:=uq f;clear b f;have F:=JB l;have G:=JB o;clear l o;unfold by8 at K M;by_cases p:g=j
     . subst p
       go_wp2
       go_quiet (fail)
       go_wp2
       go_roundw
       case rel=>
        refine⟨k+1,Z,by go_num,?_,_,rfl⟩;show xs.take (k+1)=ys.take (k+1);rw[AO D,AO E,JA C,<- JA F,<- JA G]
       case measure=>simp[intOf];omega
     have H:((g.toNat:Int) == (j.toNat:Int))=false:=by
      rw[Dc];intro e;exact p (UInt8.toNat_inj.1 Z)
     have T:((g.toNat:Int) != (j.toNat:Int))=true:=by
      rw[bne,H];rfl
     go_wp2
     go_quiet (fail)
     go_wp2
     go_ret;refine⟨VF ?_,XBY _ _ _⟩
     symm
     rw[AY];intro e;apply p;rw[JA F,JA G];simp[e]
   have:k=n:=Z;subst this
   go_wp2
   go_ret;refine⟨VF ?_,_,rfl⟩
   symm
   rw[Ar];have h:=JA C;have U:=JA y;have V:=JA z;rw[AH Z,AH Z] at h;exact h
 have H:((n:Int) != (m:Int))=true:=by simp;omega
 go_enter func114,ntmps114
 go_wp2
 go_ret;refine⟨VF ?_,0,rfl⟩
 symm
 rw[AY];rintro rfl;omega
theorem JAR {A:Option Addr} {n m:Nat} (c d:Nat) (xs ys:List UInt8) {w:World} (a:Rd w A n (bys xs)) (b:Rd w B m (bys ys)) (f:n<=9223372036854775807) (g:m<=9223372036854775807) :
 Calls prog 31 #[.slice A n c,.slice B m d] w fun e w'=>e=.returned (.bool (decide (xs=ys)))/\∃ k,w.drewN k=w':=by
 go_enter func31,ntmps31;go_wp2_with (go_at_call 114;apply (XBI c d xs ys a b f g).mono;rintro e w' ⟨rfl,k,rfl⟩);go_ret;exact⟨rfl,_,rfl⟩
theorem elem8:Elem prog 66 5 (.int .u8 0) 1:=Elem.of underlying66 (by kernel_rfl) rfl
theorem elemRows:Elem prog 69 66 (.slice none 0 0) 24:=Elem.of underlying69 (by kernel_rfl) rfl
theorem QAJ {A:Option Addr} {n:Nat} (c:Nat) (xs:List UInt8) (f t:Int) {w:World} (d:Rd w A n (bys xs)) (l:0<=f) (o:f<=t) (y:t<=n) (z:n<=c) (B:n<=140737488355328) :
 Calls prog 159 #[.slice A n c,ii f,ii t] w fun e w'=>∃ v,e=.returned v/\w'.ownsRow w.heap.size 5 1 v (t-f).toNat (bys ((xs.drop f.toNat).take (t-f).toNat))/\kz w w':=by
 obtain⟨m,g⟩:∃ m:Nat,t-f=m:=⟨(t-f).toNat,Z⟩;have h:(t-f).toNat=m:=Z;rw[h];have i:xs.length=n:=uq d.1;have p:=(d.cutA (k:=f.toNat) (cap:=c) Z Z).take (k:=m) Z;have C:m<=n:=Z;have a:=JB g;have r:=JB i;clear g h i;go_enter func159,ntmps159
 go_wp2_with (first
  | (at_make;refine elem8.wp_make rfl _ _ rfl .i64 .i64 (t-f) (t-f) m rfl rfl (JA a) (JA a) Z Z ?_)
  | (refine QQ rfl (.tmp 13) (some (.tmp 14)) (some (.tmp 15)) rfl (.slice (cutA A f.toNat c) m (c-f.toNat)) ?hrun ?_)
  | (refine elem8.wp_copy rfl (.tmp 12) (.tmp 16) rfl (some w.heap.size) (cutA A f.toNat c) m m m (c-f.toNat) rfl rfl w.heap.size 0 (List.replicate m (.int .u8 0)) 5 ?hblk (fun _=>rfl) sq _ ((p.keep ((Keep.refl _ w).alloc _))) ?hone ?_))
 case hrun=>
  intro W;have:=elem8.run_lh A n c .i64 .i64 f t l o Z W;rw[show t.toNat-f.toNat=m from by have:=JA a;omega] at this;exact this
 case hblk=>simpa using Blk.new w 5 (Array.replicate m (.int .u8 0))
 case hone=>
  rw[Jn,Zb];exact fun v s=>Zi _ v (CI s)
 intro w2 j u
 go_wp2
 go_ret
 have b:((xs.drop f.toNat).take m).length=m:=by
  have D:=JA a;have E:=JA r;simp;omega
 rw[Jn,Zb,AH (uq (Ap b)),VAo _ _ (uq b.symm)] at j;refine⟨_,rfl,XS j (AG _) Z (uq b) rfl,?_⟩;exact((Keep.refl _ w).alloc _).trans u sq
theorem JX {A:Option Addr} {n:Nat} (c:Nat) (xs:List UInt8) {w:World} (a:Rd w A n (bys xs)) (k:n<=140737488355328) :
 Calls prog 238 #[.slice A n c] w fun e w'=>∃ v,e=.returned v/\w'.ownsRow w.heap.size 5 1 v n (bys xs)/\kz w w'/\(v=.slice none 0 0↔A=none):=by
 have l:=fun(W:World)=>Db (P:=prog) W 66 5 A n c 0 0 underlying66;rcases A with _ | ad
 . obtain rfl:n=0:=by
    rcases Bm n with e | e
    . exact e
    obtain⟨b,o,h,_⟩:=a.2 e;cases h
   obtain rfl:xs=[]:=Aw (uq a.1);go_enter func238,ntmps238
   go_wp2
   go_ret;exact⟨_,rfl,Ab _ _ _ _,kq,sq⟩
 have d:=a.keep ((Keep.refl _ w).alloc (.cells #[] 5));have f:(w.alloc (.cells #[] 5)).ownsRow w.heap.size 5 1 (.slice (some w.heap.size) 0 0) 0 []:=XS (Blk.new w 5 #[]) (AG _) Z rfl rfl;go_enter func238,ntmps238;go_wp2_with (at_builtin;refine elem8.wp_app rfl _ _ rfl w.heap.size _ 0 [] rfl f (some ad) n c (bys xs) rfl d (Zi _) Z Z sq ?_);intro m w' g i _ j
 go_wp2
 go_ret;exact⟨_,rfl,g,((Keep.refl _ w).alloc _).trans i (by simp[Value.ownBlock]),by simp[j]⟩
def Bts (w:World) (v:Value) (bs:List UInt8):Prop:=∃ A n c,v=.slice A n c/\n<=c/\n<=140737488355328/\Rd w A n (bys bs)
theorem Bts.keep {w w':World} (h:Bts w v bs) (a:kz w w'):Bts w' v bs:=by
 obtain⟨A,n,c,e,b,d,f⟩:=h;exact⟨A,n,c,e,b,d,f.keep a⟩
theorem Bts.keepIf {w w':World} {l:List Nat} (h:Bts w v bs) (b:Keep l w w') (d:∀ g∈v.ownBlock.toList,g∉l):Bts w' v bs:=by
 obtain⟨A,n,c,rfl,e,f,i⟩:=h;exact⟨A,n,c,rfl,e,f,i.keepIf b (fun a j=>d _ (by simp[Value.ownBlock,j]))⟩
theorem Bts.drewN {w:World} (h:Bts w v bs) (k:Nat):Bts (w.drewN k) v bs:=h
theorem Bts.of_own {w:World} {n:Nat} (h:w.ownsRow base 5 1 v n (bys bs)) (a:n<=140737488355328):Bts w v bs:=by
 rcases h.2 with⟨rfl,rfl⟩ | ⟨g,cap,c,rfl,_,_,b,_⟩
 . exact⟨_,_,_,rfl,AG _,a,Rd.of_own h⟩
 exact⟨_,_,_,rfl,b,a,Rd.of_own h⟩
def Rws (w:World) (A:Option Addr) (n:Nat) (ls:List (Value×List UInt8)):Prop:=Rd w A n (ls.map (·.1))/\∀ p∈ls,Bts w p.1 p.2
theorem Rws.keep {w w':World} {A:Option Addr} {n:Nat} (h:Rws w A n ls) (a:kz w w'):Rws w' A n ls:=
 ⟨h.1.keep a,fun p b=>(h.2 p b).keep a⟩
theorem Rws.drewN {w:World} {A:Option Addr} {n:Nat} (h:Rws w A n ls) (k:Nat):Rws (w.drewN k) A n ls:=h
theorem Rws.len {w:World} {A:Option Addr} {n:Nat} (h:Rws w A n ls):ls.length=n:=uq h.1.1
theorem Rws.at_ {w:World} {A:Option Addr} {n:Nat} (h:Rws w A n ls) (d:j<n) (a:j<ls.length) :
 ∃ b o,A=some ⟨b,o,none⟩/\b<w.heap.size/\w.cell? (aq b (o+j))=some ls[j].1/\Bts w ls[j].1 ls[j].2:=by
 obtain⟨b,o,u,rfl,c,e,f⟩:=h.1.at_ d;simp only[Aa,AC a,Ao,Ae] at c;subst c;exact⟨b,o,rfl,e,f,h.2 _ (AQ a)⟩
theorem ZAL {a b:Type} (f:a->b) (l:List a) (k:Nat) (h:k<l.length):(l.map f).take (k+1)=(l.map f).take k++[f l[k]]:=by
 rw[AO (uq h)];simp
def num:List UInt8->Nat
 | []=>0
 | b :: l=>b.toNat+256*num l
@[simp] theorem num_nil:num []=0:=rfl
theorem QBp (l:List UInt8):num l<256 ^ l.length:=by
 induction l with
 | nil=>simp
 | cons b l ih=>
   have:=b.toNat_lt;simp only[num,Am,CT];omega
theorem XAt (l k:List UInt8):num (l++k)=num l+256 ^ l.length*num k:=by
 induction l with
 | nil=>simp
 | cons b l ih=>simp only[Ac,num,ih,Am,CT,Nat.mul_add];rw[<- Cb,Bq 256 (256 ^ l.length)];omega
theorem KBP (l:List UInt8) (b:UInt8):num (l++[b])=num l+256 ^ l.length*b.toNat:=by rw[XAt];simp[num]
theorem KBf (k n:Nat):le (k+1) n=UInt8.ofNat (n % 256) :: le k (n / 256):=by
 unfold le;rw[List.range_succ_eq_map,CN,List.map_map]
 congr 1
 . simp
 apply DE;intro i _;simp only[Function.comp];rw[DI,CT,Bq]
theorem XAu (k n:Nat) (h:n<256 ^ k):num (le k n)=n:=by
 induction k generalizing n with
 | zero=>simp at h;simp[h]
 | succ k ih=>
   rw[KBf,num,ih _ (by rw[CT] at h;omega)];rw[Cd];omega
theorem KBZ (a b:Nat) (c:a<=9223372036854775807) (d:b<=9223372036854775807):bits BinOp.or IntKind.i64 (a:Int) (b:Int)=IntKind.i64.wrap ((a ||| b:Nat):Int):=by
 show IntKind.i64.wrap ((BitVec.ofInt 64 (a:Int) ||| BitVec.ofInt 64 (b:Int)).toNat:Int)=_;rw[CQ,CQ,BitVec.toNat_or,CA,CA,Bh Z,Bh Z]
theorem Vu (y:Nat) (h:y<=9223372036854775807):wrap64 ((y:Nat):Int)=(y:Nat):=by unfold wrap64;omega
theorem VBr (n i:Nat) (x:UInt8) (hi:i<=3) (a:n<256 ^ i):bits BinOp.or IntKind.i64 (n:Int) (wrap64 (wrap64 ((x.toNat:Nat):Int)*2 ^ (8*i)))=((n+256 ^ i*x.toNat:Nat):Int):=by
 have f:=x.toNat_lt;have b:256 ^ i<=256 ^ 3:=CG Z hi;rw[Vu _ Z]
 have c:(((x.toNat:Nat):Int)*2 ^ (8*i))=((256 ^ i*x.toNat:Nat):Int):=by
  rw[CM,Dr,show ((256:Nat):Int)=2 ^ 8 from rq,<- Int.pow_mul,Int.mul_comm]
 have g:256 ^ i*x.toNat<=256 ^ 3*255:=Dw b Z
 have d:256 ^ i*x.toNat ||| n=256 ^ i*x.toNat+n:=by
  have e:256 ^ i=2 ^ (8*i):=by rw[Nat.pow_mul]
  rw[e] at a ⊢;rw[Nat.two_pow_add_eq_or_of_lt a]
 rw[c];generalize 256 ^ i*x.toNat=y at *;have h:n<256 ^ 3:=Z;rw[Vu _ Z,KBZ _ _ Z Z,Nat.or_comm,d,AK];omega
section
open Go.RowKit
variable {P:Program} {t e:TypeId} {z:Value} {bytes:Nat}
theorem Elem.run_zero (E:Elem P t e z bytes) (w:World):(zeroValue e).run P w=.ok z w:=by
 obtain⟨i,hi,a,b,c⟩:=E.info;simp[zeroValue,typeInfo,hi,a]
theorem Qf (z:Value) (n:Nat):(Builtin.zeroCells #[z] n).toList=List.replicate n z:=by
 rw[List.eq_replicate_iff];refine⟨by simp[Builtin.zeroCells],?_⟩;intro b a;simp only[Builtin.zeroCells,Array.toList_map,Cv] at a;obtain⟨i,_,rfl⟩:=a;have:i % (#[z]:Array Value).size=0:=by simp[Nat.mod_one]
 rw[this];rfl
theorem Elem.run_clear (E:Elem P t e z bytes) (w:World) (j:TypeId) (D:Option Addr) (n c:Nat) (g a:Nat) (b:List Value) (d:TypeId) (f:Blk w g d b.toArray) (l:0<n->D=some ⟨g,a,none⟩) (m:a+n<=b.length) (o:z.oneCell'=true) :
 ∃ w',(Builtin.clear_ #[t] j #[.slice D n c]).run P w=.ok (.tuple #[]) w'/\Blk w' g d (splice b a (List.replicate n z)).toArray/\Keep [g] w w':=by
 obtain⟨i,hi,u,y,A⟩:=E.info;rcases Bm n with h | h
 . subst h
   refine⟨w,?_,by simpa [splice] using f,kq⟩;cases D <;> simp[Builtin.clear_,CC E.und]
 obtain rfl:=l h;obtain⟨n',rfl⟩:∃ n',n=n'+1:=⟨n-1,Z⟩;have p:=run_storeCells_at P g a d (List.replicate (n'+1) z) 0 b.toArray w f (uq m) (by intro v r;rw[(List.mem_replicate.1 r).2];exact o);refine⟨w.setRow g (splice b a (List.replicate (n'+1) z)).toArray,?_,?_,?_⟩
 . simp only[Builtin.clear_,List.getElem?_toArray,Bi,Bz,CC E.und,BU,E.run_zero,E.one,Qf,p]
   simp[splice]
 . show _=_
   simpa [splice] using De w g _ _ d _ f
 exact⟨rfl,rfl,rfl,by simp[World.setRow],fun k B s=>DU w g k _ (uq s)⟩