/- Lemmas of the proof, with their conditions. -/
import Derived.Test.YtfedaknhecbehaaGreatProg
import Derived.WalkSpells
import Derived.WalkLawsBesides
import Derived.BigQuiet
import Derived.Deep.RegionHeld3
import Derived.Deep.AppendLies
import Derived.Laws.CopyOwn
namespace Go.Proofs.YtfedaknhecbehaaGreat
open Tryz
theorem Z {p : Prop} (h : p := by omega) : p := h
theorem sq {p : Prop} (h : p := by simp) : p := h
theorem rq {p : Prop} (h : p := by rfl) : p := h
theorem ex {A : Sort _} (a : A) : ∃ x, x = a := ⟨a, rfl⟩
theorem iq {p : Prop} (h : p := by intro x f; exact .inr (by simp at f; omega)) : p := h
theorem uq {a p : Prop} (h : a) (k : a -> p := by intro h; simpa using h) : p := k h
inductive Hz | zz
def zz : Hz := .zz
instance : Coe Hz Value := ⟨fun _ => .int .i64 0⟩
inductive Ii : Int -> Type | mk (n : Int) : Ii n
def ii (n : Int) : Ii n := .mk n
instance {n : Int} : CoeHead (Ii n) Value := ⟨fun _ => .int .i64 n⟩
inductive Pq : Nat -> Type | mk (n : Nat) : Pq n
def pq (n : Nat) : Pq n := .mk n
instance {n : Nat} : CoeHead (Pq n) Value := ⟨fun _ => .pointer (some ⟨n, 0, none⟩)⟩
inductive Aq : Nat -> Nat -> Type | mk (b o : Nat) : Aq b o
def aq (b o : Nat) : Aq b o := .mk b o
instance {b o : Nat} : CoeHead (Aq b o) Addr := ⟨fun _ => ⟨b, o, none⟩⟩
inductive Cl : World -> Addr -> Value -> Type | mk (w : World) (a : Addr) (v : Value) : Cl w a v
def cl (w : World) (a : Addr) (v : Value) : Cl w a v := .mk w a v
instance {w : World} {a : Addr} {v : Value} : CoeSort (Cl w a v) Prop := ⟨fun _ => w.cell? a = some v⟩
instance {w : World} {a : Addr} {v : Value} : CoeHead (Cl w a v) Prop := ⟨fun _ => w.cell? a = some v⟩
inductive Hn | zn
def zn : Hn := .zn
instance : Coe Hn Value := ⟨fun _ => .slice none 0 0⟩
theorem PL {A : Type} : (∀ l : List A, l.toArray.size = l.length) ∧ (∀ (a : A) l, (a :: l).length = l.length + 1) ∧ (([] : List A).length = 0) ∧ (∀ n (a : A), Array.replicate (n + 1) a = (Array.replicate n a).push a) ∧ (∀ a : A, Array.replicate 0 a = #[]) ∧ (∀ (l : List A) a, l.toArray.push a = (l ++ [a]).toArray) ∧ (∀ l k : List A, l.toArray ++ k.toArray = (l ++ k).toArray) ∧ (∀ l : List A, [] ++ l = l) ∧ (∀ (a : A) l k, a :: l ++ k = a :: (l ++ k)) := ⟨fun _ => rfl, fun _ _ => rfl, rfl, fun _ _ => Array.replicate_succ, fun _ => rfl, fun _ _ => by simp, fun _ _ => by simp, fun _ => rfl, fun _ _ _ => rfl⟩
inductive Hs : World -> Type | mk (w : World) : Hs w
def hs (w : World) : Hs w := .mk w
instance {w : World} : CoeHead (Hs w) Nat := ⟨fun _ => w.heap.size⟩
instance : Coe Nat Addr := ⟨fun b => ⟨b, 0, none⟩⟩
instance : Coe Nat Value := ⟨fun n => .int .i64 n⟩
open Go.RowKit
variable {p:Addr} {b j k cap base c s:Nat} {a:Act} {ops:Array Oper} {rest:List Oper} {o:Oper} {Q:Exit->Act->World->Prop} {v:Value} {bs:List UInt8} {B:Option Addr} {ls:List (Value×List UInt8)}
set_option linter.all false
def A6:=@List.mem_append_right
def AA:=@List.getD_eq_getElem?_getD
def AB:=@Nat.le_trans
def AC:=@List.getElem?_eq_getElem
def AD:=@List.mem_append
def AE:=@List.length_append
def AF:=@if_neg
def AG:=@Nat.le_refl
def AH:=@decide_eq_true
def AI:=@Go.IntKind.wrap_i64
def AJ:=@if_pos
def AK:=@List.take_of_length_le
def AL:=@List.mem_cons
def AM:=@Go.World.size_alloc
def AN:=@List.getElem_mem
def AO:=@List.take_succ_eq_append_getElem
def AP:=@Nat.zero_le
def AQ:=@Go.callsIn_wide
def AR:=@Array.getElem?_eq_some_iff
def AS:=@List.mem_or_eq_of_mem_set
def AT:=@List.setIfInBounds_toArray
def AU:=@decide_eq_false
def AV:=@decide_eq_false_iff_not
def AW:=@Go.Oper.semAt_some
def AX:=@List.eq_of_mem_replicate
def AY:=@decide_eq_true_eq
def AZ:=@Go.World.ownsRow_nil
def Aa:=@List.getElem?_map
def Ab:=@Option.some.injEq
def Ac:=@Go.bodyPost_ret
def Ad:=@Array.replicate_zero
def Ae:=@Array.replicate_succ
def Af:=@List.length_singleton
def Ag:=@List.mem_singleton
def Ah:=@List.set_cons_zero
def Ai:=@List.length_nil
def Aj:=@List.set_cons_succ
def Ak:=@List.mem_cons_of_mem
def Al:=@Bool.and_eq_true
def Am:=@List.nil_append
def Ao:=@List.length_cons
def Ap:=@Bool.false_eq_true
def Ar:=@Nat.le_of_eq
def As:=@List.cons_append
def At:=@List.mem_append_left
def Au:=@List.getElem?_replicate
def Av:=@Int.natCast_add
def Aw:=@List.eq_nil_of_length_eq_zero
def Ay:=@List.size_toArray
def Az:=@Option.map_some
def B1:=@BitVec.ofInt_natCast
def B5:=@Go.wpList_plain
def B7:=@Go.Sem.run_pure
def B8:=@Go.Sem.run_bind
def B9:=@Go.World.cell?_of_block
def BB:=@Nat.zero_add
def BC:=@Go.Proofs.Tryz.ntmps263
def BD:=@List.length_replicate
def BE:=@List.flatMap_cons
def BF:=@List.append_toArray
def BG:=@Nat.lt_or_ge
def BH:=@List.length_take
def BI:=@Go.Proofs.Tryz.func263
def BJ:=@Nat.mul_le_mul_right
def BK:=@Nat.add_zero
def BL:=@List.drop_of_length_le
def BM:=@List.flatMap_append
def BN:=@List.append_assoc
def BO:=@Nat.mod_eq_of_lt
def BP:=@Nat.lt_of_lt_of_le
def BQ:=@Nat.eq_zero_or_pos
def BR:=@List.push_toArray
def BS:=@List.getElem?_eq_some_iff
def BT:=@List.getElem?_drop
def BU:=@Go.mem_ready
def BV:=@Go.Result.andThen_ok
def BW:=@List.getElem?_set
def BX:=@List.getElem?_cons_succ
def BY:=@Nat.add_assoc
def BZ:=@Go.Proofs.Tryz.isAgg3
def Ba:=@Int.toNat_natCast
def Bb:=@List.getElem?_take
def Bc:=@List.getElem?_eq_none
def Be:=@List.countP_cons
def Bf:=@List.map_append
def Bg:=@List.append_nil
def Bh:=@Bool.eq_iff_iff
def Bi:=@Go.Proofs.Tryz.underlying28
def Bj:=@List.getElem?_cons_zero
def Bk:=@Nat.mod_lt
def Bl:=@List.length_set
def Bm:=@List.getElem?_append_right
def Bn:=@BitVec.toNat_ofNat
def Bo:=@if_true
def Bp:=@Go.Proofs.Tryz.underlying66
def Bq:=@List.range_succ
def Br:=@Go.wpOp_mono
def Bs:=@List.mem_flatMap
def Bt:=@List.drop_eq_getElem_cons
def Bu:=@Int.tmod_eq_emod_of_nonneg
def Bw:=@Go.Addr.add_mid
def Bx:=@Go.Proofs.Tryz.underlying3
def By:=@List.ext_getElem?
def Bz:=@List.mem_of_getElem?
def C0:=@Option.some.inj
def C1:=@Bool.or_eq_true
def C2:=@List.set_getElem_self
def C3:=@List.getElem?_zipWith
def C4:=@List.countP_replicate
def C5:=@Array.length_toList
def C6:=@Nat.sub_self
def C7:=@Nat.ne_of_gt
def C8:=@List.mem_map
def C9:=@Go.Proofs.Tryz.func237
def CC:=@List.countP_pos_iff
def CD:=@if_false
def CE:=@Go.run_underlying
def CF:=@Nat.pow_le_pow_right
def CG:=@List.getElem?_append_left
def CH:=@List.drop_append
def CI:=@List.take_append_of_le_length
def CJ:=@List.length_map
def CK:=@beq_iff_eq
def CL:=@UInt8.toNat_ofNat'
def CM:=@Nat.mul_comm
def CN:=@List.map_cons
def CO:=@Nat.min_eq_left
def CP:=@Int.natCast_mul
def CQ:=@Nat.lt_irrefl
def CR:=@Go.Lib.run_eql_slice_nil
def CS:=@List.mem_cons_self
def CT:=@Int.tdiv_eq_ediv_of_nonneg
def CU:=@Array.toList_setIfInBounds
def CV:=@List.drop_replicate
def CW:=@Go.Proofs.Tryz.ntmps355
def CX:=@Go.Proofs.Tryz.ntmps267
def CY:=@Nat.div_le_self
def CZ:=@List.take_append_drop
def Ca:=@List.countP_le_length
def Cb:=@Go.Proofs.Tryz.underlying58
def Cc:=@Nat.add_mul
def Cd:=@Go.callsIn_of_wp
def Ce:=@List.countP_append
def Cf:=@Nat.succ_mul
def Cg:=@Nat.pow_succ
def Ch:=@List.mem_of_mem_take
def Ci:=@List.map_set
def Cj:=@List.findIdx_getElem
def Ck:=@Go.wpIn_wide
def Cm:=@Go.Proofs.Tryz.func355
def Cn:=@Go.Proofs.Tryz.func267
def Co:=@List.map_toArray
def Cp:=@Option.getD_some
def Cs:=@Nat.and_two_pow_sub_one_eq_mod
def Ct:=@Int.natCast_ediv
def Cu:=@Go.Proofs.Tryz.ntmps237
def Cv:=@BitVec.toNat_and
def Cw:=@List.take_replicate
def Cx:=@List.map_nil
def Cy:=@List.map_congr_left
def Cz:=@Nat.mul_one
def D0:=@Eq.symm
def D6:=@Nat.mul_le_mul
def D7:=@List.set_append_right
def D8:=@List.mem_range
def D9:=@List.countP_singleton
def DA:=@List.not_mem_nil
def DB:=@Int.tmod_lt_of_pos
def DC:=@Go.all_oneCell_toArray
def DD:=@BitVec.getLsbD_ushiftRight
def DE:=@List.set_eq_take_append_cons_drop
def DF:=@List.getElem?_of_mem
def DG:=@Nat.dvd_mul_right
def DH:=@List.drop_succ_cons
def DI:=@List.countP_nil
def DJ:=@List.countP_eq_zero
def DK:=@not_or
def DL:=@Nat.zero_mul
def DM:=@Nat.mul_succ
def DN:=@Nat.div_div_eq_div_mul
def DO:=@List.take_append
def DP:=@List.not_of_lt_findIdx
def DQ:=@List.getElem?_set_self
def DR:=@List.flatMap_singleton
def DS:=@Go.Proofs.Tryz.ntmps87
def DT:=@Nat.div_add_mod
def DU:=@List.map_replicate
def DV:=@List.filter_append
def DW:=@Int.emod_nonneg
def DX:=@List.length_filter_le
def DY:=@Go.setRow_other
def DZ:=@or_false
def Da:=@Go.run_storeAt_mid
def Db:=@List.sum_append
def Dc:=@Go.Proofs.Tryz.func87
def Dd:=@beq_eq_false_iff_ne
def De:=@Go.size_madeCells
def Df:=@Go.setRow_heap
def Dg:=@Go.Region.noSelect_spec
def Dh:=@Int.emod_lt_of_pos
def Di:=@BitVec.getLsbD_xor
def Dj:=@List.filter_cons
def Dl:=@List.set_set
def Dm:=@List.drop_zero
def Dn:=@Go.Proofs.Tryz.func343
def Do:=@Go.Proofs.Tryz.results383
def Dp:=@BitVec.toNat_inj
def Dq:=@List.take_left'
def Dr:=@List.mem_filter
def Ds:=@List.length_eq_zero_iff
def Dt:=@Go.run_sliceAt_slice
def Du:=@Go.run_append_own_at
def Dv:=@Go.bodyPost_end
def Dw:=@Int.natCast_pow
def Dx:=@List.flatten_cons
def Dy:=@List.drop_eq_nil_of_le
def Dz:=@Go.Region.free_spec
def EA:=@Go.Proofs.Tryz.ntmps347
def EB:=@Go.Proofs.Tryz.ntmps105
def EC:=@List.length_drop
def ED:=@Go.Proofs.Tryz.underlying182
def EE:=@List.mem_of_mem_drop
def EF:=@List.getElem?_append
def EG:=@Go.run_loadAt_mid
set_option maxHeartbeats 400000
structure Keep (l:List Nat) (w w':World):Prop where
 os:w'.os=w.os
 tape:w'.tape=w.tape
 output:w'.output=w.output
 size:w.heap.size<=w'.heap.size
 block:∀ k,k<w.heap.size->k∉l->w'.heap[k]? = w.heap[k]?
namespace Keep
variable {l m:List Nat} {w w1 w2:World}
theorem refl (l:List Nat) (w:World):Keep l w w:=⟨rfl,rfl,rfl,AG _,fun _ _ _=>rfl⟩
theorem trans (h:Keep l w w1) (k:Keep m w1 w2) (b:∀ x∈m,x∈l\/w.heap.size<=x):Keep l w w2:=
 ⟨k.os.trans h.os,k.tape.trans h.tape,k.output.trans h.output,AB h.size k.size,fun i hi a=>
   (k.block i (BP hi h.size) (fun c=>(b i c).elim a Z)).trans (h.block i hi a)⟩
theorem tO (h:Keep l w w1) (k:Keep [] w1 w2):Keep l w w2:=h.trans k (fun _ a=>by cases a)
theorem mono (h:Keep l w w1) (a:∀ x∈l,x∈m\/w.heap.size<=x):Keep m w w1:=
 ⟨h.os,h.tape,h.output,h.size,fun i hi b=>h.block i hi (fun c=>(a i c).elim b Z)⟩
theorem zero (h:Keep [] w w1):Keep l w w1:=h.mono (fun _ a=>by cases a)
theorem drew (h:Keep l w w1):Keep l w w1.drew:=⟨h.os,h.tape,h.output,h.size,h.block⟩
theorem drewN (h:Keep l w w1) (n:Nat):Keep l w (w1.drewN n):=⟨h.os,h.tape,h.output,h.size,h.block⟩
theorem alloc (h:Keep l w w1) (o:Obj):Keep l w (w1.alloc o):=
 h.trans (m:=[]) ⟨rfl,rfl,rfl,sq,fun k a _=>Below.heap_alloc _ _ _ a⟩ (fun _ b=>by cases b)
theorem setCell (h:Keep l w w1) (a:p.block∈l\/w.heap.size<=p.block) (u:Value):Keep l w (w1.setCell p u):=
 h.trans (m:=[p.block]) ⟨rfl,rfl,rfl,sq,fun k _ b=>Below.heap_setCell _ _ _ _ (fun e=>b (by simp[e]))⟩ (fun x c=>by
  have:x=p.block:=uq c
  subst this;exact a)
theorem ofDrewN (n:Nat):Keep l w (w.drewN n):=(refl l w).drewN n
theorem cell (h:Keep l w w1) (a:b<w.heap.size) (c:b∉l) (o:Nat):w1.cell? (aq b o)=w.cell? (aq b o):=
 B9 (w:=w) (h.block b a c)
theorem frozen (h:Keep l w w1) (a:b<w.heap.size) (c:b∉l) (o:Nat):w1.frozen? ⟨b,o,none⟩=w.frozen? ⟨b,o,none⟩:=
 World.frozen?_of_block (w:=w) (h.block b a c)
theorem below (h:Keep [] w w1):Below w.heap.size w w1:=⟨h.os,h.tape,h.output,h.size,fun k a=>h.block k a sq⟩
theorem ofGrown {b:Option Nat} (a:w.grownBy w1 b):Keep b.toList w w1:=
 ⟨a.os,a.tape,a.output,a.size,fun k c d=>a.block k c (fun e=>d (by simp[<- e]))⟩
theorem lt (h:Keep l w w1) (a:b<w.heap.size):b<w1.heap.size:=BP a h.size
end Keep
inductive Hk : World -> World -> Type | mk (a b : World) : Hk a b
def kz (a b : World) : Hk a b := .mk a b
instance {a b : World} : CoeSort (Hk a b) Prop := ⟨fun _ => Keep [] a b⟩
instance {a b : World} : CoeHead (Hk a b) Prop := ⟨fun _ => Keep [] a b⟩
theorem Keep.sc {l : List Nat} {w u : World} {v : Value} (h : Keep l w u) (b o : Nat) (hb : b ∈ l := by simp) : Keep l w (u.setCell ⟨b, o, none⟩ v) := h.setCell (p := ⟨b, o, none⟩) (.inl hb) v
theorem kq {l : List Nat} {w : World} : Keep l w w := Keep.refl _ _
inductive Cr : Nat -> Array Value -> World -> Value -> Type | mk (n : Nat) (a : Array Value) (w : World) (v : Value) : Cr n a w v
def cr (n : Nat) (a : Array Value) (w : World) (v : Value) : Cr n a w v := .mk n a w v
instance {n : Nat} {a : Array Value} {w : World} {v : Value} : CoeSort (Cr n a w v) Prop := ⟨fun _ => Calls prog n a w fun e u => e = .returned v ∧ Keep [] w u⟩
instance {n : Nat} {a : Array Value} {w : World} {v : Value} : CoeHead (Cr n a w v) Prop := ⟨fun _ => Calls prog n a w fun e u => e = .returned v ∧ Keep [] w u⟩
inductive Cq : Nat -> Array Value -> World -> Value -> Type | mk (n : Nat) (a : Array Value) (w : World) (v : Value) : Cq n a w v
def cq (n : Nat) (a : Array Value) (w : World) (v : Value) : Cq n a w v := .mk n a w v
instance {n : Nat} {a : Array Value} {w : World} {v : Value} : CoeSort (Cq n a w v) Prop := ⟨fun _ => Calls prog n a w fun e u => e = .returned v ∧ w = u⟩
instance {n : Nat} {a : Array Value} {w : World} {v : Value} : CoeHead (Cq n a w v) Prop := ⟨fun _ => Calls prog n a w fun e u => e = .returned v ∧ w = u⟩
theorem mq {P : Program} {f : Nat} {vs : Array Value} {r : Ending} {w u : World} {Q : Ending -> World -> Prop} (h : Calls P f vs w fun e w' => e = r /\ u = w') (k : Q r u) : Calls P f vs w Q := h.mono (by rintro _ _ ⟨rfl, rfl⟩; exact k)
def Blk (w:World) (g:Nat) (t:TypeId) (cs:Array Value):Prop:=w.heap[g]? = some (.cells cs t (0,0))
namespace Blk
variable {w w':World} {g:Nat} {t:TypeId} {cs:Array Value}
theorem lt (h:Blk w g t cs):g<w.heap.size:=by
 rcases BG g w.heap.size with a | b
 . exact a
 unfold Blk at h;rw[Array.getElem?_eq_none b] at h;cases h
theorem cell (h:Blk w g t cs) (i:Nat):w.cell? (aq g i)=cs[i]? := cell_of_row w g i cs t (0,0) h
theorem frozen (h:Blk w g t cs) (i:Nat):w.frozen? ⟨g,i,none⟩=false:=by
 unfold Blk at h;simp[World.frozen?,h]
theorem new (w:World) (t:TypeId) (cs:Array Value):Blk (w.alloc (.cells cs t)) w.heap.size t cs:=heap_alloc_new w _
theorem drew (h:Blk w g t cs):Blk w.drew g t cs:=h
theorem drewN (h:Blk w g t cs) (n:Nat):Blk (w.drewN n) g t cs:=h
theorem alloc (h:Blk w g t cs) (o:Obj):Blk (w.alloc o) g t cs:=(Below.heap_alloc w o g h.lt).trans h
theorem set (h:Blk w g t cs) (i:Nat) (u:Value):Blk (w.setCell (aq g i) u) g t (cs.setIfInBounds i u):=by
 unfold Blk at h ⊢;simp[World.setCell,Array.getElem?_modify,h]
theorem far (h:Blk w g t cs) (a:g≠p.block) (u:Value):Blk (w.setCell p u) g t cs:=(Below.heap_setCell w p u g a).trans h
theorem keep {l:List Nat} (h:Blk w g t cs) (a:Keep l w w') (b:g∉l):Blk w' g t cs:=(a.block g h.lt b).trans h
theorem kO (h:Blk w g t cs) (a:kz w w'):Blk w' g t cs:=h.keep a sq
theorem ne_ {b:Nat} {c:TypeId} {d:Array Value} (h:Blk w g t cs) (a:Blk w b c d) (e:t≠c):g≠b:=by
 rintro rfl;unfold Blk at h a;rw[h] at a;injection a with a;injection a with _ ht;exact e ht
end Blk
def Rd (w:World) (A:Option Addr) (n:Nat) (xs:List Value):Prop:=
 xs.length=n/\(0<n->∃ b o,A=some ⟨b,o,none⟩/\b<w.heap.size/\∀ j u,xs[j]? = some u->cl w (aq b (o+j)) u)
namespace Rd
variable {w w':World} {A:Option Addr} {n:Nat} {xs:List Value}
theorem at_ (h:Rd w A n xs) (c:j<n):∃ b o u,A=some ⟨b,o,none⟩/\xs[j]? = some u/\b<w.heap.size/\cl w (aq b (o+j)) u:=by
 obtain⟨b,o,rfl,d,e⟩:=h.2 Z;have a:xs[j]? = some (xs[j]'(by rw[h.1];exact c)):=AC _;exact⟨b,o,_,rfl,a,d,e j _ a⟩
theorem keepIf {l:List Nat} (h:Rd w A n xs) (c:Keep l w w') (f:∀ a,A=some a->a.block∉l):Rd w' A n xs:=
 ⟨h.1,fun g=>by
   obtain⟨b,o,e,d,i⟩:=h.2 g;exact⟨b,o,e,c.lt d,fun j u k=>(c.cell d (f _ e) _).trans (i j u k)⟩⟩
theorem keep (h:Rd w A n xs) (a:kz w w'):Rd w' A n xs:=h.keepIf a sq
theorem drewN (h:Rd w A n xs) (k:Nat):Rd (w.drewN k) A n xs:=h
theorem drew (h:Rd w A n xs):Rd w.drew A n xs:=h
theorem nil (w:World) (A:Option Addr):Rd w A 0 []:=⟨rfl,fun h=>absurd h Z⟩
theorem cut (h:Rd w A n xs) (e:k<=n) (f:n<=cap):Rd w (if cap=k then A else A.map (·.add k)) (n-k) (xs.drop k):=by
 refine⟨by rw[EC,h.1],fun g=>?_⟩;obtain⟨b,o,rfl,a,c⟩:=h.2 Z;rw[AF Z];refine⟨b,o+k,by simp[Bw],a,fun j u d=>?_⟩;rw[show o+k+j=o+(k+j) from Z];exact c _ u (by rw[<- d,BT])
theorem take (h:Rd w A n xs) (e:k<=n):Rd w A k (xs.take k):=by
 refine⟨by rw[BH,h.1];omega,fun f=>?_⟩;obtain⟨b,o,rfl,c,d⟩:=h.2 Z;refine⟨b,o,rfl,c,fun j u a=>d j u ?_⟩;rw[Bb] at a
 split at a
 . exact a
 cases a
theorem of_own {e:TypeId} (h:w.ownsRow base e 1 (.slice A n c) n xs):Rd w A n xs:=by
 refine⟨uq h.1,fun a=>?_⟩;obtain⟨g,cap,b,_,d⟩:=h.form a;have f:A=some ⟨g,0,none⟩:=by injection b
 subst f;refine⟨g,0,rfl,d,fun j u i=>?_⟩;have:=h.cells (g:=g) rfl j u i
 rwa [Bw] at this
theorem of_blk {g:Nat} {t:TypeId} {cs:Array Value} (h:Blk w g t cs) (b:n<=cs.size):Rd w (some g) n (cs.toList.take n):=by
 refine⟨by simp;omega,fun _=>⟨g,0,rfl,h.lt,fun j u a=>?_⟩⟩;rw[h.cell];rw[Bb] at a
 split at a
 . simpa using a
 cases a
end Rd
def by8 (c:UInt8):Value:=.int .u8 c.toNat
def bys (bs:List UInt8):List Value:=bs.map by8
def i64 (z:Int):Value:=.int .i64 z
def KW (zs:List Int):List Value:=zs.map i64
@[simp] theorem length_bys (bs:List UInt8):(bys bs).length=bs.length:=by simp[bys]
@[simp] theorem length_ints (bs:List Int):(KW bs).length=bs.length:=by simp[KW]
theorem Yn (bs:List UInt8) (j:Nat) (h:j<bs.length):(bys bs)[j]? = some (by8 bs[j]):=by simp[bys,h]
theorem Zq (a b:List UInt8):bys (a++b)=bys a++bys b:=by simp[bys]
theorem ZV (a:List UInt8) (n:Nat):(bys a).take n=bys (a.take n):=by simp[bys,List.map_take]
theorem Xl (a:List UInt8) (n:Nat):(bys a).drop n=bys (a.drop n):=by simp[bys,List.map_drop]
theorem Xk (bs:List UInt8):∀ u∈bys bs,u.oneCell'=true:=by
 intro u a;simp only[bys,C8] at a;obtain⟨c,_,rfl⟩:=a;rfl
theorem ZBJ (bs:List Int):∀ u∈KW bs,u.oneCell'=true:=by
 intro u a;simp only[KW,C8] at a;obtain⟨c,_,rfl⟩:=a;rfl
theorem ZB {p:Prop} (h:p):Hid p:=h
theorem ZA {p:Prop} (h:Hid p):p:=h
theorem QBL (w:World) (a b:Nat):∃ k,w.drewN k=(w.drewN a).drewN b:=⟨a+b,sq⟩
theorem JL {k:IntKind} {a b:Int} (h:a=b):Ending.returned (.int k a)=.returned (.int k b):=by rw[h]
theorem JF {a b:Bool} (h:a=b):Ending.returned (.bool a)=.returned (.bool b):=by rw[h]
section
open Go.RowKit
structure Elem (P:Program) (t e:TypeId) (z:Value) (bytes:Nat):Prop where
 und:P.underlying t=some (.slice e)
 info:∃ i,P.info? e=some i/\i.zero=some z/\i.size=1/\i.bytes=bytes
 one:z.cells=#[z]
theorem Elem.of {P:Program} {t e:TypeId} {z:Value} {bytes:Nat} (a:P.underlying t=some (.slice e)) (h:(P.info? e).map (fun i=>(i.zero,i.size,i.bytes))=some (some z,1,bytes)) (b:z.cells=#[z]):Elem P t e z bytes:=by
 obtain⟨i,c,d,f,g⟩:=info_parts h;exact⟨a,⟨i,c,d,f,g⟩,b⟩
theorem JAI (z:Value) (n:Nat):madeCells #[z] n=Array.replicate n z:=by
 rw[<- Array.toList_inj,toList_madeCells_one];simp
variable {P:Program} {t e:TypeId} {z:Value} {bytes:Nat}
theorem Elem.run_make (E:Elem P t e z bytes) (a b:IntKind) (n c:Nat) (k:n<=c) (l:bytes*c<=281474976710656) (m:c<=9223372036854775807) (w:World) :
 (Instr.makeSlice t (.int a (n:Int)) (.int b (c:Int))).run P w=.ok (.slice (some w.heap.size) n c) (w.alloc (.cells (Array.replicate c z) e)):=by
 obtain⟨i,hi,f,g,rfl⟩:=E.info
 have j:(i.bytes:Int)*(c:Int)<=281474976710656:=by
  have h:((i.bytes*c:Nat):Int)<=281474976710656:=Z
  rwa [CP] at h
 have d:=Go.run_make (P:=P) w t e i z E.und hi f a b n c Z Z j Z;simp only[Ba,g,Cz,E.one,JAI] at d;exact d
theorem Elem.wp_make (E:Elem P t e z bytes) {w:World}
 (f:o.guard=none) (l c:Operand) (g:o.op=Op.makeSlice t l c) (b d:IntKind) (L C:Int) (m:Nat) (i:a.eval l=.int b L) (j:a.eval c=.int d C) (k:L=(m:Int)) (n:C=(m:Int))
 (p:bytes*m<=281474976710656) (q:m<=9223372036854775807)
 (h:wpList P ops Q rest (a.put o.dst (.slice (some w.heap.size) m m)) (w.alloc (.cells (Array.replicate m z) e))) :
 wpList P ops Q (o :: rest) a w:=by
 refine B5 f fun K r=>?_;have s:=E.run_make b d m m (AG _) p q w;subst k;subst n;unfold Oper.wp;simp[execOp,g,i,j,s,Result.andThen];exact r _ _ h
def cutA (A:Option Addr) (k cap:Nat):Option Addr:=if cap=k then A else A.map (·.add k)
theorem JBH (A:Option Addr) (cap:Nat):cutA A 0 cap=A:=by
 unfold cutA
 split
 . rfl
 cases A <;> simp[Addr.add]
theorem VBZ (g o k cap:Nat) (h:cap≠k):cutA (some (aq g o)) k cap=some ⟨g,o+k,none⟩:=by
 unfold cutA;rw[AF h];simp[Bw]
theorem Rd.cutA {w:World} {A:Option Addr} {n:Nat} {xs:List Value} (h:Rd w A n xs) (a:k<=n) (b:n<=cap):Rd w (cutA A k cap) (n-k) (xs.drop k):=h.cut a b
theorem Jn (A:Option Addr) (l h cap:Nat):sliced A l h cap 1=.slice (Go.Proofs.YtfedaknhecbehaaGreat.cutA A l cap) (h-l) (cap-l):=by
 unfold sliced Go.Proofs.YtfedaknhecbehaaGreat.cutA;rw[Cz]
theorem Elem.run_size (E:Elem P t e z bytes) (w:World):(sizeOf (P.elem t)).run P w=.ok 1 w:=by
 obtain⟨i,hi,c,a,d⟩:=E.info;have b:P.elem t=e:=by simp[Program.elem,E.und]
 simp[sizeOf,typeInfo,b,hi,a]
theorem Elem.und' (E:Elem P t e z bytes):P.underlying t=some (.slice (P.elem t)):=by
 have a:P.elem t=e:=by simp[Program.elem,E.und]
 rw[a];exact E.und
theorem Elem.run_lh (E:Elem P t e z bytes) (A:Option Addr) (n cap:Nat) (a b:IntKind) (l h:Int) (c:0<=l) (d:l<=h) (f:h<=cap) (w:World) :
 (Instr.sliceAt t (.slice A n cap) (some (.int a l)) (some (.int b h)) none).run P w=.ok (.slice (cutA A l.toNat cap) (h.toNat-l.toNat) (cap-l.toNat)) w:=by
 rw[Dt _ _ _ _ _ _ E.und',run_slice_lh _ _ _ _ _ E.und' _ _ _ _ c d f,E.run_size];simp only[Result.andThen,Jn]
theorem Elem.run_l (E:Elem P t e z bytes) (A:Option Addr) (n cap:Nat) (a:IntKind) (l:Int) (b:0<=l) (c:l<=n) (w:World) :
 (Instr.sliceAt t (.slice A n cap) (some (.int a l)) none none).run P w=.ok (.slice (cutA A l.toNat cap) (n-l.toNat) (cap-l.toNat)) w:=by
 rw[Dt _ _ _ _ _ _ E.und',run_slice_l _ _ _ _ _ E.und' _ _ b c,E.run_size];simp only[Result.andThen,Jn]
theorem Elem.run_h (E:Elem P t e z bytes) (A:Option Addr) (n cap:Nat) (a:IntKind) (h:Int) (b:0<=h) (c:h<=cap) (w:World) :
 (Instr.sliceAt t (.slice A n cap) none (some (.int a h)) none).run P w=.ok (.slice A h.toNat cap) w:=by
 rw[Dt _ _ _ _ _ _ E.und',run_slice_h _ _ _ _ _ E.und' _ _ b c,E.run_size];simp only[Result.andThen,Jn,JBH,Nat.sub_zero]
theorem Jd {w:World}
 (b:o.guard=none) (x:Operand) (lo hi:Option Operand) (c:o.op=Op.slice t x lo hi none) (v:Value)
 (d:∀ W,(Instr.sliceAt t (a.eval x) (lo.map a.eval) (hi.map a.eval) none).run P W=.ok v W)
 (h:wpList P ops Q rest (a.put o.dst v) w):wpList P ops Q (o :: rest) a w:=by
 refine B5 b fun K e=>?_;unfold Oper.wp;have f:=d w;simp only[execOp,c];simp[f,Result.andThen];exact e _ _ h
theorem Vq (E:Elem P t e z bytes) {w:World} (a:TypeId) {n:Nat} {xs:List Value} (b:w.ownsRow base e 1 v n xs) (c:Nat):(Builtin.append_ #[t,t] a #[v,.slice none 0 c]).run P w=.ok v w:=by
 obtain⟨i,hi,f,h,j⟩:=E.info;rcases b.2 with⟨rfl,rfl⟩ | ⟨g,cap,k,rfl,_,_,d,_⟩
 . simp[Builtin.append_,CE E.und,sizeOf,typeInfo,hi,Builtin.lenOf,Builtin.firstCells]
 simp[Builtin.append_,CE E.und,sizeOf,typeInfo,hi,Builtin.lenOf,Builtin.firstCells,d,storeCells]
theorem Elem.run_app (E:Elem P t e z bytes) (w:World) (base:Nat) (g:TypeId) (v:Value) (n:Nat) (xs:List Value) (h:w.ownsRow base e 1 v n xs)
 (A:Option Addr) (m c:Nat) (d:List Value) (k:Rd w A m d) (f:∀ u∈d,u.oneCell'=true)
 (C:n+m<=9223372036854775807) (D:(n+m)*bytes<=140737488355328) (F:base<=w.heap.size) :
 ∃ a w',(Builtin.append_ #[t,t] g #[v,.slice A m c]).run P w=.ok a w'/\w'.ownsRow base e 1 a (n+m) (xs++d)/\Keep v.ownBlock.toList w w' /\
   (a.ownBlock=v.ownBlock\/a.ownBlock=some w.heap.size)/\(a=.slice none 0 0↔v=.slice none 0 0/\m=0):=by
 rcases BQ m with l | l
 . subst l
   have H:d=[]:=Aw k.1;subst H;rcases A with _ | ad
   . exact⟨v,w,Vq E g h c,uq h,kq,.inl rfl,sq⟩
   obtain⟨i,hi,p,q,G⟩:=E.info
   obtain⟨a,w',f,r,s,y,B⟩:=Du (P:=P) w base t g e i z 1 bytes E.und hi p q G (by rw[E.one];rfl) Z v n xs h ad 0 c [] rfl sq sq (by simpa [maxLen] using C) D F;exact⟨a,w',f,r,Keep.ofGrown s,B,y⟩
 obtain⟨b,o,rfl,G,I⟩:=k.2 l
 obtain⟨i,hi,p,q,J⟩:=E.info;obtain⟨a,w',f,r,s,y,B⟩:=Du (P:=P) w base t g e i z 1 bytes E.und hi p q J (by rw[E.one];rfl) Z v n xs h ⟨b,o,none⟩ m c d (uq k.1) (fun j u K=>by rw[Bw];exact I j u K) f (by simpa [maxLen] using C) D F;exact⟨a,w',f,r,Keep.ofGrown s,B,y⟩
theorem Elem.wp1_app (E:Elem P t e z bytes) {w:World} {K:Act->World->Prop} (s x:Operand)
 (f:o.op=.call { callee:=.builtin .append,args:=#[s,x],argTypes:=#[t,t] })
 (base:Nat) (v:Value) (n:Nat) (xs:List Value) (g:a.eval s=v) (i:w.ownsRow base e 1 v n xs)
 (A:Option Addr) (m c:Nat) (d:List Value) (j:a.eval x=.slice A m c) (k:Rd w A m d) (l:∀ u∈d,u.oneCell'=true)
 (p:n+m<=9223372036854775807) (q:(n+m)*bytes<=140737488355328) (r:base<=w.heap.size)
 (h:∀ b w',w'.ownsRow base e 1 b (n+m) (xs++d)->Keep v.ownBlock.toList w w'->(b.ownBlock=v.ownBlock\/b.ownBlock=some w.heap.size)->(b=.slice none 0 0↔v=.slice none 0 0/\m=0)->K (a.put o.dst b) w'):o.wp P a w K Q:=by
 obtain⟨b,w',y,B,C,D,F⟩:=E.run_app w base o.type v n xs i A m c d k l p q r;unfold Oper.wp execOp;simp only[f,resolve,invoke,builtin,B8,B7,BV,Co,CN,Cx,g,j,y];exact h b w' B C D F
theorem Elem.wp_app (E:Elem P t e z bytes) {w:World} (f:o.guard=none) (s x:Operand)
 (g:o.op=.call { callee:=.builtin .append,args:=#[s,x],argTypes:=#[t,t] })
 (base:Nat) (v:Value) (n:Nat) (xs:List Value) (i:a.eval s=v) (j:w.ownsRow base e 1 v n xs)
 (A:Option Addr) (m c:Nat) (d:List Value) (k:a.eval x=.slice A m c) (l:Rd w A m d) (p:∀ u∈d,u.oneCell'=true)
 (q:n+m<=9223372036854775807) (r:(n+m)*bytes<=140737488355328) (y:base<=w.heap.size)
 (h:∀ b w',w'.ownsRow base e 1 b (n+m) (xs++d)->Keep v.ownBlock.toList w w'->(b.ownBlock=v.ownBlock\/b.ownBlock=some w.heap.size)->(b=.slice none 0 0↔v=.slice none 0 0/\m=0)->wpList P ops Q rest (a.put o.dst b) w'):wpList P ops Q (o :: rest) a w:=
 B5 f fun _ B=>E.wp1_app s x g base v n xs i j A m c d k l p q r y fun b w' C D F G=>B _ _ (h b w' C D F G)
theorem Elem.wp_copy (E:Elem P t e z bytes) {w:World} (F:o.guard=none) (d s:Operand)
 (G:o.op=.call { callee:=.builtin .copy,args:=#[d,s],argTypes:=#[t,t] })
 (D A:Option Addr) (c r f u:Nat) (H:a.eval d=.slice D c r) (I:a.eval s=.slice A f u)
 (g n:Nat) (p:List Value) (q:TypeId) (y:Blk w g q p.toArray) (K:0<c->D=some ⟨g,n,none⟩) (V:n+c<=p.length)
 (ys:List Value) (B:Rd w A f ys) (L:∀ v∈ys.take c,v.oneCell'=true)
 (h:∀ w',Blk w' g q (splice p n (ys.take c)).toArray->Keep [g] w w'->wpList P ops Q rest (a.put o.dst (goInt (Nat.min f c))) w') :
 wpList P ops Q (o :: rest) a w:=by
 obtain⟨i,hi,W,M,X⟩:=E.info;have J:(P.info? e).map (·.size)=some 1:=by rw[hi];simp[M]
 have C:(ys.take c).length=Nat.min f c:=by rw[BH,B.1];exact Nat.min_comm _ _
 rw[<- C] at h;by_cases m:(ys.take c).length=0
 . have N:ys.take c=[]:=Aw m
   refine wpList_copy_nothing F d s t t G e E.und J D A c r f u H I (by rw[<- C];exact m) ?_;have:=h w (by rw[N];simpa [splice] using y) kq
   rwa [m] at this
 have O:0<c:=by
  rcases BQ c with e | e
  . subst e;simp at m
  exact e
 have R:0<f:=by
  rcases BQ f with e | e
  . subst e
    have:=B.1;simp only[BH] at m;omega
  exact e
 obtain rfl:=K O;obtain⟨b,S,rfl,Y,T⟩:=B.2 R;refine wpList_copy_own F d s t t G e E.und J g n c r ⟨b,S,none⟩ f u H I p.toArray q y (ys.take c) C ?_ ?_ ?_ ?_
 . intro j v l
   rw[Bw];refine T j v ?_;rw[Bb] at l
   split at l
   . exact l
   cases l
 . simp only[BH,Ay]
   omega
 . intro v l
   exact L v l
 refine h _ ?_ ?_
 . show _=_
   simpa [splice] using Df w g _ _ q _ y
 exact⟨rfl,rfl,rfl,by simp[World.setRow],fun k hk U=>DY w g k _ (uq U)⟩
theorem ZAd {a:Type} (L cs:List a) (h:L.length=cs.length):splice L 0 cs=cs:=by simp[splice,<- h]
theorem Vh {w:World} {g n:Nat} {e:TypeId} {xs:List Value} {cs:Array Value} (h:Blk w g e cs) (b:base<=g) (d:n<=c) (f:c<=9223372036854775807) (i:cs.size=c) (a:cs.toList.take n=xs) :
 w.ownsRow base e 1 (.slice (some g) n c) n xs:=by
 refine⟨?_,.inr ⟨g,c,cs,rfl,b,h,d,by simpa [maxLen] using f,Z,uq a⟩⟩;rw[<- a];simp;omega
theorem QR {w:World} {g n:Nat} {e:TypeId} {xs:List Value} {cs:Array Value} (h:Blk w g e cs) (c:base<=g) (d:n<=9223372036854775807) (a:cs.size=n) (b:cs.toList=xs) :
 w.ownsRow base e 1 (.slice (some g) n n) n xs:=
 Vh h c (AG _) d a (by rw[b];exact AK (by rw[<- b];simp[a]))
theorem VC {w:World} {base':Nat} {e:TypeId} {n:Nat} {xs:List Value} (h:w.ownsRow base e s v n xs) (d:base'<=base):w.ownsRow base' e s v n xs:=by
 refine⟨h.1,?_⟩;rcases h.2 with a | ⟨g,cap,b,c,f,r⟩
 . exact .inl a
 exact .inr ⟨g,cap,b,c,Z,r⟩
theorem KA {w w':World} {e:TypeId} {n:Nat} {xs:List Value} {l:List Nat} (h:w.ownsRow base e s v n xs) (a:Keep l w w') (b:∀ g,v.ownBlock=some g->g∉l):w'.ownsRow base e s v n xs:=by
 refine⟨h.1,?_⟩;rcases h.2 with c | ⟨g,cap,d,rfl,f,i,r⟩
 . exact .inl c
 exact .inr ⟨g,cap,d,rfl,f,Blk.keep (g:=g) i a (b g rfl),r⟩
theorem QB {w w':World} {e:TypeId} {n:Nat} {xs:List Value} (h:w.ownsRow base e s v n xs) (a:kz w w'):w'.ownsRow base e s v n xs:=KA h a sq
theorem XB {w:World} {e:TypeId} {n:Nat} {xs:List Value} (h:w.ownsRow base e s v n xs):∃ A c,v=.slice A n c/\n<=c/\c<=9223372036854775807/\(A=none->n=0/\c=0)/\(∀ a,A=some a->∃ g,a=⟨g,0,none⟩):=by
 rcases h.2 with⟨rfl,rfl⟩ | ⟨g,cap,i,rfl,_,_,d,f,_⟩
 . exact⟨_,_,rfl,Z,Z,sq,sq⟩
 exact⟨_,_,rfl,d,by simpa [maxLen] using f,sq,by intro a b;injection b with b;exact⟨g,b.symm⟩⟩
theorem XS (w:World) (x:Value) (e:TypeId):Rd (w.alloc (.cells #[x] e)) (some w.heap.size) 1 [x]:=by
 have:=Rd.of_blk (n:=1) (Blk.new w e #[x]) sq;simpa using this
theorem XE {w:World} {e:TypeId} {n:Nat} {xs:List Value} (h:w.ownsRow base e s v n xs) (o:Obj):(w.alloc o).ownsRow base e s v n xs:=
 QB h ((Keep.refl [] w).alloc o)
theorem JAL {w:World} {e:TypeId} {n:Nat} {xs:List Value} (h:w.ownsRow base e s v n xs):∀ g∈v.ownBlock.toList,base<=g:=by
 intro g a;exact(h.lt g (uq a)).1
end
def le (k n:Nat):List UInt8:=(List.range k).map fun i=>UInt8.ofNat (n / 256 ^ i % 256)
theorem le_succ (k n:Nat):le (k+1) n=le k n++[UInt8.ofNat (n / 256 ^ k % 256)]:=by simp[le,Bq]
@[simp] theorem length_le (k n:Nat):(le k n).length=k:=by simp[le]
@[simp] theorem le_zero (n:Nat):le 0 n=[]:=rfl
def laid {α:Type} (bs:List α) (a:Nat) (ns:List α):List α:=bs.take a++ns++bs.drop (a+ns.length)
@[simp] theorem laid_nil {b:Type} (bs:List b) (a:Nat):laid bs a []=bs:=by simp[laid]
theorem QG {b:Type} (bs:List b) (a:Nat) (c:List b) (h:a+c.length<=bs.length):(laid bs a c).length=bs.length:=by
 simp[laid];omega
theorem VBD {c:Type} (bs:List c) (a:Nat) (b:List c) (x:c) (h:a+b.length<bs.length):laid bs a (b++[x])=(laid bs a b).set (a+b.length) x:=by
 unfold laid;rw[D7 _ _ (by simp;omega)];have d:a+b.length-(bs.take a++b).length=0:=by simp;omega
 rw[d,Bt h,Ah,AE];simp[BY]
theorem YAp {d:Type} (bs:List d) (a:Nat) (b c:List d) (h:a+b.length+c.length<=bs.length):laid (laid bs a b) (a+b.length) c=laid bs a (b++c):=by
 have e:(bs.take a++b).length=a+b.length:=by simp;omega
 unfold laid;rw[CI Z,AK Z,CH,List.drop_drop];rw[BL Z,Am,e,AE];simp only[BN]
 congr 4
 omega
theorem KBI {b d:Type} (f:b->d) (bs:List b) (a:Nat) (c:List b):(laid bs a c).map f=laid (bs.map f) a (c.map f):=by
 simp[laid,List.map_take,List.map_drop]
theorem XAI (bs:List UInt8) (a:Nat) (b:List UInt8):bys (laid bs a b)=laid (bys bs) a (bys b):=by simp[bys,KBI]
theorem YBa (bs:List UInt8) (i:Nat) (x:UInt8):bys (bs.set i x)=(bys bs).set i (by8 x):=by simp[bys,Ci]
theorem Ks {b:Type} (bs a:List b) (h:a.length=bs.length):laid bs 0 a=a:=by simp[laid,h]
theorem QW {w:World} {g n:Nat} {e:TypeId} {xs:List Value} (h:w.ownsRow base e 1 (.slice (some g) n c) n xs) (i:Nat) (u:Value) :
 (w.setCell (aq g i) u).ownsRow base e 1 (.slice (some g) n c) n (xs.set i u):=by
 rcases h.2 with⟨a,_⟩ | ⟨o,cap,b,a,d,f,j,k,l,m⟩
 . cases a
 cases a
 refine Vh (Blk.set (t:=e) f i u) d j (by simpa [maxLen] using k) (uq l) ?_;rw[CU,List.take_set,show b.toList.take n=xs from uq m]
theorem YI {w:World} {g n:Nat} {e:TypeId} {xs:List Value} (h:w.ownsRow base e 1 (.slice (some g) n c) n xs) {i:Nat} {u:Value} (a:xs[i]? = some u):cl w (aq g i) u:=by
 rcases h.2 with⟨b,_⟩ | ⟨j,cap,k,b,l,d,m,o,p,f⟩
 . cases b
 cases b
 rw[Blk.cell (t:=e) d];rw[<- f,Bb] at a
 split at a
 . simpa using a
 cases a
theorem XJ {w:World} {g n:Nat} {e:TypeId} {xs:List Value} (h:w.ownsRow base e 1 (.slice (some g) n c) n xs) (i:Nat):w.frozen? ⟨g,i,none⟩=false:=by
 rcases h.2 with⟨a,_⟩ | ⟨d,cap,f,a,j,b,k,l,m,o⟩
 . cases a
 cases a
 exact Blk.frozen (t:=e) b i
theorem YAw {w:World} {g n:Nat} {e:TypeId} {xs:List Value} (h:w.ownsRow base e 1 (.slice (some g) n c) n xs):g<w.heap.size:=(h.lt g rfl).2
theorem JI {w:World} {n:Nat} {e:TypeId} {xs:List Value} (h:w.ownsRow base e 1 v n xs) (f:0<n):∃ g c,v=.slice (some (aq g 0)) n c/\n<=c:=by
 rcases h.2 with⟨rfl,i⟩ | ⟨a,cap,j,b,k,l,d,m,o,p⟩
 . omega
 exact⟨a,cap,b,d⟩
theorem ZAI {w:World} {g n a:Nat} {e:TypeId} {b:List UInt8} (h:w.ownsRow base e 1 (.slice (some g) n c) n (bys (laid bs a b))) (d:a+b.length<bs.length) (x:UInt8) (i:Nat) (hi:i=a+b.length) :
 (w.setCell (aq g i) (by8 x)).ownsRow base e 1 (.slice (some g) n c) n (bys (laid bs a (b++[x]))):=by
 subst hi;rw[VBD _ _ _ _ d,YBa];exact QW h _ _
theorem JBU (a:Int) (b:0<=a) (e:a<=9223372036854775807):bits BinOp.and IntKind.i64 a 255=a % 256:=by
 obtain⟨k,rfl⟩:=Int.eq_ofNat_of_zero_le b;show IntKind.i64.wrap ((BitVec.ofInt 64 (k:Int) &&& BitVec.ofInt 64 255).toNat:Int)=_
 have c:(BitVec.ofInt 64 (k:Int)).toNat=k:=by
  rw[B1,Bn];exact BO Z
 have d:(BitVec.ofInt 64 255).toNat=2 ^ 8-1:=by decide
 rw[Cv,c,d,Cs,AI];omega
theorem YAv (n i:Nat) (b:n<=9223372036854775807) (hi:i<=7):Value.int .u8 (bits BinOp.and IntKind.i64 (((n:Nat):Int) / 2 ^ (8*i)) 255 % 256)=by8 (UInt8.ofNat (n / 256 ^ i % 256)):=by
 have a:((2:Int) ^ (8*i))=((256 ^ i:Nat):Int):=by
  rw[Dw,show ((256:Nat):Int)=2 ^ 8 from rq,Int.pow_mul]
 have c:n / 256 ^ i<=n:=CY _ _;rw[a,<- Ct];generalize n / 256 ^ i=q at *;rw[JBU _ Z Z];unfold by8;rw[CL]
 congr 1
theorem ZAj (n a b:Int) (w:World) :
 cq 147 #[ii n,ii a,ii b] w (.bool (decide (a<=n/\n<=b))):=by
 by_cases c:a<=n
 . by_cases d:n<=b
   all_goals
    go_enter func147,ntmps147
    go_wp2
    go_ret;exact⟨by simp[c,d],rfl⟩
 go_enter func147,ntmps147
 go_wp2
 go_ret;exact⟨by simp;omega,rfl⟩
theorem JBQ (n m:Int) (a:0<m):n % m=if n.tmod m<0 then n.tmod m+m else n.tmod m:=by
 have e:=DB n a
 have f : -m<n.tmod m:=by
  have:=DB (-n) a;rw[Int.neg_tmod] at this;omega
 have g:=Int.mul_tdiv_add_tmod n m
 have b:∀ r:Int,0<=r->r<m->(∃ q,m*q+r=n)->n % m=r:=by
  intro r c d ⟨q,hq⟩;rw[<- hq,Int.add_comm,Int.add_mul_emod_self_left,Int.emod_eq_of_lt c d]
 split
 . refine b _ Z Z ⟨n.tdiv m-1,?_⟩
   rw[Int.mul_sub];omega
 exact b _ Z Z ⟨n.tdiv m,Z⟩
theorem JAU (n m:Int) (w:World) (a:0<m) (c:m<=9223372036854775807) :
 cq 104 #[ii n,ii m] w (ii (n % m)):=by
 have k:=JBQ n m a;have d:=DB n a
 have e : -m<n.tmod m:=by
  have:=DB (-n) a;rw[Int.neg_tmod] at this;omega
 have K:=ZB k;clear k;go_enter func104,ntmps104
 go_wp2
 . have b:n.tmod m<0:=by assumption
   go_ret;refine⟨JL ?_,rfl⟩;rw[ZA K,AJ b]
 have b:0<=n.tmod m:=by assumption
 go_ret;refine⟨JL ?_,rfl⟩;rw[ZA K,AF Z]
theorem VV (n m:Int) (w:World) (a:0<m) (b:m<=9223372036854775807) :
 cq 25 #[ii n,ii m] w (ii (n % m)):=by
 go_enter func25,ntmps25;go_wp2_with (go_at_call 104;refine(JAU _ _ _ a b).mono ?_;rintro e w' ⟨rfl,rfl⟩);go_ret;exact⟨rfl,rfl⟩
theorem ZAw {A:Option Addr} {n m:Nat} (c d:Nat) (xs ys:List UInt8) {w:World} (q:Rd w A n (bys xs)) (r:Rd w B m (bys ys)) (M:n<=9223372036854775807) (N:m<=9223372036854775807) :
 Calls prog 114 #[.slice A n c,.slice B m d] w fun e w'=>e=.returned (.bool (decide (xs=ys)))/\∃ k,w.drewN k=w':=by
 have s:xs.length=n:=uq q.1
 have u:ys.length=m:=uq r.1
 by_cases H:n=m
 . subst H
   have v:=ZB s;have y:=ZB u;clear s u;go_enter func114,ntmps114
   go_wp2
   go_loopw [5] (fun i wr=>∃ k:Nat,k<=n/\i=.int .i64 k/\Hid (xs.take k=ys.take k)/\∃ t,wr=w.drewN t) (fun i _=>n-(intOf i).toNat)
   case atStart=>exact⟨0,AP _,rfl,by simp[Hid],0,rfl⟩
   obtain⟨k,O,rfl,z,t,rfl⟩:=hrel;by_cases a:k<n
   . obtain⟨b1,P,I,rfl,b,_,J⟩:=q.at_ a
     obtain⟨Q,R,K,rfl,f,_,L⟩:=r.at_ a;have C:k<xs.length:=by rw[ZA v];exact a
     have D:k<ys.length:=by rw[ZA y];exact a
     rw[Yn _ _ C] at b;rw[Yn _ _ D] at f;obtain⟨g,l⟩:=ex (xs[k]);obtain⟨j,o⟩:=ex (ys[k]);rw[<- l] at b;rw[<- o] at f;obtain rfl:by8 g=I:=uq b
     obtain rfl:by8 j=K:=uq f
     clear b f;have E:=ZB l;have F:=ZB o;clear l o;unfold by8 at J L;by_cases p:g=j
     . subst p
       go_wp2
       go_quiet (fail)
       go_wp2
       go_roundw
       case rel=>
        refine⟨k+1,Z,by go_num,?_,_,rfl⟩;show xs.take (k+1)=ys.take (k+1);rw[AO C,AO D,ZA z,<- ZA E,<- ZA F]
       case measure=>simp[intOf];omega
     have G:((g.toNat:Int) == (j.toNat:Int))=false:=by
      rw[Dd];intro e;exact p (UInt8.toNat_inj.1 Z)
     have S:((g.toNat:Int) != (j.toNat:Int))=true:=by
      rw[bne,G];rfl
     go_wp2
     go_quiet (fail)
     go_wp2
     go_ret;refine⟨JF ?_,QBL _ _ _⟩
     symm
     rw[AV];intro e;apply p;rw[ZA E,ZA F];simp[e]
   have:k=n:=Z
   subst this
   go_wp2
   go_ret;refine⟨JF ?_,_,rfl⟩
   symm
   rw[AY];have h:=ZA z;have T:=ZA v;have U:=ZA y;rw[AK Z,AK Z] at h;exact h
 have G:((n:Int) != (m:Int))=true:=by simp;omega
 go_enter func114,ntmps114
 go_wp2
 go_ret;refine⟨JF ?_,0,rfl⟩
 symm
 rw[AV];rintro rfl;omega
theorem XAA {A:Option Addr} {n m:Nat} (c d:Nat) (xs ys:List UInt8) {w:World} (a:Rd w A n (bys xs)) (b:Rd w B m (bys ys)) (f:n<=9223372036854775807) (g:m<=9223372036854775807) :
 Calls prog 31 #[.slice A n c,.slice B m d] w fun e w'=>e=.returned (.bool (decide (xs=ys)))/\∃ k,w.drewN k=w':=by
 go_enter func31,ntmps31;go_wp2_with (go_at_call 114;refine(ZAw c d xs ys a b f g).mono ?_;rintro e w' ⟨rfl,k,rfl⟩);go_ret;exact⟨rfl,_,rfl⟩
theorem elem8:Elem prog 66 5 (.int .u8 0) 1:=Elem.of underlying66 (by kernel_rfl) rfl
theorem elemRows:Elem prog 69 66 (.slice none 0 0) 24:=Elem.of underlying69 (by kernel_rfl) rfl
theorem Yl {A:Option Addr} {n:Nat} (c:Nat) (xs:List UInt8) (f t:Int) {w:World} (d:Rd w A n (bys xs)) (l:0<=f) (o:f<=t) (u:t<=n) (y:n<=c) (z:n<=140737488355328) :
 Calls prog 159 #[.slice A n c,ii f,ii t] w fun e w'=>∃ v,e=.returned v/\w'.ownsRow w.heap.size 5 1 v (t-f).toNat (bys ((xs.drop f.toNat).take (t-f).toNat))/\kz w w':=by
 obtain⟨m,g⟩:∃ m:Nat,t-f=m:=⟨(t-f).toNat,Z⟩;have h:(t-f).toNat=m:=Z
 rw[h];have i:xs.length=n:=uq d.1
 have p:=(d.cutA (k:=f.toNat) (cap:=c) Z Z).take (k:=m) Z;have B:m<=n:=Z
 have a:=ZB g;have q:=ZB i;clear g h i;go_enter func159,ntmps159
 go_wp2_with (first
  | (at_make;refine elem8.wp_make rfl _ _ rfl .i64 .i64 (t-f) (t-f) m rfl rfl (ZA a) (ZA a) Z Z ?_)
  | (refine Jd rfl (.tmp 13) (some (.tmp 14)) (some (.tmp 15)) rfl (.slice (cutA A f.toNat c) m (c-f.toNat)) ?hrun ?_)
  | (refine elem8.wp_copy rfl (.tmp 12) (.tmp 16) rfl (some w.heap.size) (cutA A f.toNat c) m m m (c-f.toNat) rfl rfl w.heap.size 0 (List.replicate m (.int .u8 0)) 5 ?hblk (fun _=>rfl) sq _ ((p.keep ((Keep.refl _ w).alloc _))) ?hone ?_))
 case hrun=>
  intro W;have:=elem8.run_lh A n c .i64 .i64 f t l o Z W;rw[show t.toNat-f.toNat=m from by have:=ZA a;omega] at this;exact this
 case hblk=>simpa using Blk.new w 5 (Array.replicate m (.int .u8 0))
 case hone=>
  rw[Xl,ZV];exact fun v r=>Xk _ v (Ch r)
 intro w2 j s
 go_wp2
 go_ret
 have b:((xs.drop f.toNat).take m).length=m:=by
  have C:=ZA a;have D:=ZA q;simp;omega
 rw[Xl,ZV,AK (uq (Ar b)),ZAd _ _ (uq b.symm)] at j;refine⟨_,rfl,QR j (AG _) Z (uq b) rfl,?_⟩;exact((Keep.refl _ w).alloc _).trans s sq
theorem KV {A:Option Addr} {n:Nat} (c:Nat) (xs:List UInt8) {w:World} (a:Rd w A n (bys xs)) (k:n<=140737488355328) :
 Calls prog 238 #[.slice A n c] w fun e w'=>∃ v,e=.returned v/\w'.ownsRow w.heap.size 5 1 v n (bys xs)/\kz w w'/\(v=.slice none 0 0↔A=none):=by
 have l:=fun(W:World)=>CR (P:=prog) W 66 5 A n c 0 0 underlying66;rcases A with _ | ad
 . obtain rfl:n=0:=by
    rcases BQ n with e | e
    . exact e
    obtain⟨b,o,h,_⟩:=a.2 e
    cases h
   obtain rfl:xs=[]:=Aw (uq a.1);go_enter func238,ntmps238
   go_wp2
   go_ret;exact⟨_,rfl,AZ _ _ _ _,kq,sq⟩
 have d:=a.keep ((Keep.refl _ w).alloc (.cells #[] 5))
 have f:(w.alloc (.cells #[] 5)).ownsRow w.heap.size 5 1 (.slice (some w.heap.size) 0 0) 0 []:=QR (Blk.new w 5 #[]) (AG _) Z rfl rfl;go_enter func238,ntmps238;go_wp2_with (at_builtin;refine elem8.wp_app rfl _ _ rfl w.heap.size _ 0 [] rfl f (some ad) n c (bys xs) rfl d (Xk _) Z Z sq ?_);intro m w' g i _ j
 go_wp2
 go_ret;exact⟨_,rfl,g,((Keep.refl _ w).alloc _).trans i (by simp[Value.ownBlock]),by simp[j]⟩
def Bts (w:World) (v:Value) (bs:List UInt8):Prop:=∃ A n c,v=.slice A n c/\n<=c/\n<=140737488355328/\Rd w A n (bys bs)
theorem Bts.keep {w w':World} (h:Bts w v bs) (a:kz w w'):Bts w' v bs:=by
 obtain⟨A,n,c,e,b,d,f⟩:=h;exact⟨A,n,c,e,b,d,f.keep a⟩
theorem Bts.keepIf {w w':World} {l:List Nat} (h:Bts w v bs) (b:Keep l w w') (d:∀ g∈v.ownBlock.toList,g∉l):Bts w' v bs:=by
 obtain⟨A,n,c,rfl,e,f,i⟩:=h;exact⟨A,n,c,rfl,e,f,i.keepIf b (fun a j=>d _ (by simp[Value.ownBlock,j]))⟩
theorem Bts.drewN {w:World} (h:Bts w v bs) (k:Nat):Bts (w.drewN k) v bs:=h
theorem Bts.of_own {w:World} {n:Nat} (h:w.ownsRow base 5 1 v n (bys bs)) (a:n<=140737488355328):Bts w v bs:=by
 rcases h.2 with⟨rfl,rfl⟩ | ⟨g,cap,c,rfl,_,_,b,_⟩
 . exact⟨_,_,_,rfl,AG _,a,Rd.of_own h⟩
 exact⟨_,_,_,rfl,b,a,Rd.of_own h⟩
def Rws (w:World) (A:Option Addr) (n:Nat) (ls:List (Value×List UInt8)):Prop:=Rd w A n (ls.map (·.1))/\∀ p∈ls,Bts w p.1 p.2
theorem Rws.keep {w w':World} {A:Option Addr} {n:Nat} (h:Rws w A n ls) (a:kz w w'):Rws w' A n ls:=
 ⟨h.1.keep a,fun p b=>(h.2 p b).keep a⟩
theorem Rws.drewN {w:World} {A:Option Addr} {n:Nat} (h:Rws w A n ls) (k:Nat):Rws (w.drewN k) A n ls:=h
theorem Rws.len {w:World} {A:Option Addr} {n:Nat} (h:Rws w A n ls):ls.length=n:=uq h.1.1
theorem Rws.at_ {w:World} {A:Option Addr} {n:Nat} (h:Rws w A n ls) (d:j<n) (a:j<ls.length) :
 ∃ b o,A=some ⟨b,o,none⟩/\b<w.heap.size/\w.cell? (aq b (o+j))=some ls[j].1/\Bts w ls[j].1 ls[j].2:=by
 obtain⟨b,o,u,rfl,c,e,f⟩:=h.1.at_ d;simp only[Aa,AC a,Az,Ab] at c;subst c;exact⟨b,o,rfl,e,f,h.2 _ (AN a)⟩
theorem XAF {a b:Type} (f:a->b) (l:List a) (k:Nat) (h:k<l.length):(l.map f).take (k+1)=(l.map f).take k++[f l[k]]:=by
 rw[AO (uq h)];simp
def num:List UInt8->Nat
 | []=>0
 | b :: l=>b.toNat+256*num l
@[simp] theorem num_nil:num []=0:=rfl
theorem JBk (l:List UInt8):num l<256 ^ l.length:=by
 induction l with
 | nil=>simp
 | cons b l ih=>
   have:=b.toNat_lt;simp only[num,Ao,Cg];omega
theorem XAk (l k:List UInt8):num (l++k)=num l+256 ^ l.length*num k:=by
 induction l with
 | nil=>simp
 | cons b l ih=>simp only[As,num,ih,Ao,Cg,Nat.mul_add];rw[<- Nat.mul_assoc,CM 256 (256 ^ l.length)];omega
theorem ZBN (l:List UInt8) (b:UInt8):num (l++[b])=num l+256 ^ l.length*b.toNat:=by rw[XAk];simp[num]
theorem KBc (k n:Nat):le (k+1) n=UInt8.ofNat (n % 256) :: le k (n / 256):=by
 unfold le;rw[List.range_succ_eq_map,CN,List.map_map]
 congr 1
 . simp
 apply Cy
 intro i _;simp only[Function.comp];rw[DN,Cg,CM]
theorem KAQ (k n:Nat) (h:n<256 ^ k):num (le k n)=n:=by
 induction k generalizing n with
 | zero=>simp at h;simp[h]
 | succ k ih=>
   rw[KBc,num,ih _ (by rw[Cg] at h;omega)];rw[CL];omega
theorem ZBT (a b:Nat) (c:a<=9223372036854775807) (d:b<=9223372036854775807):bits BinOp.or IntKind.i64 (a:Int) (b:Int)=IntKind.i64.wrap ((a ||| b:Nat):Int):=by
 show IntKind.i64.wrap ((BitVec.ofInt 64 (a:Int) ||| BitVec.ofInt 64 (b:Int)).toNat:Int)=_;rw[B1,B1,BitVec.toNat_or,Bn,Bn,BO Z,BO Z]
theorem Zr (y:Nat) (h:y<=9223372036854775807):wrap64 ((y:Nat):Int)=(y:Nat):=by unfold wrap64;omega
theorem KBm (n i:Nat) (x:UInt8) (hi:i<=3) (a:n<256 ^ i):bits BinOp.or IntKind.i64 (n:Int) (wrap64 (wrap64 ((x.toNat:Nat):Int)*2 ^ (8*i)))=((n+256 ^ i*x.toNat:Nat):Int):=by
 have f:=x.toNat_lt;have b:256 ^ i<=256 ^ 3:=CF Z hi;rw[Zr _ Z]
 have c:(((x.toNat:Nat):Int)*2 ^ (8*i))=((256 ^ i*x.toNat:Nat):Int):=by
  rw[CP,Dw,show ((256:Nat):Int)=2 ^ 8 from rq,<- Int.pow_mul,Int.mul_comm]
 have g:256 ^ i*x.toNat<=256 ^ 3*255:=D6 b Z
 have d:256 ^ i*x.toNat ||| n=256 ^ i*x.toNat+n:=by
  have e:256 ^ i=2 ^ (8*i):=by rw[Nat.pow_mul]
  rw[e] at a ⊢;rw[Nat.two_pow_add_eq_or_of_lt a]
 rw[c];generalize 256 ^ i*x.toNat=y at *;have h:n<256 ^ 3:=Z
 rw[Zr _ Z,ZBT _ _ Z Z,Nat.or_comm,d,AI];omega
section
open Go.RowKit
variable {P:Program} {t e:TypeId} {z:Value} {bytes:Nat}
theorem Elem.run_zero (E:Elem P t e z bytes) (w:World):(zeroValue e).run P w=.ok z w:=by
 obtain⟨i,hi,a,b,c⟩:=E.info;simp[zeroValue,typeInfo,hi,a]
theorem Yd (z:Value) (n:Nat):(Builtin.zeroCells #[z] n).toList=List.replicate n z:=by
 rw[List.eq_replicate_iff];refine⟨by simp[Builtin.zeroCells],?_⟩;intro b a;simp only[Builtin.zeroCells,Array.toList_map,C8] at a;obtain⟨i,_,rfl⟩:=a;have:i % (#[z]:Array Value).size=0:=by simp[Nat.mod_one]
 rw[this];rfl
theorem Elem.run_clear (E:Elem P t e z bytes) (w:World) (j:TypeId) (D:Option Addr) (n c:Nat) (g a:Nat) (b:List Value) (d:TypeId) (f:Blk w g d b.toArray) (l:0<n->D=some ⟨g,a,none⟩) (m:a+n<=b.length) (o:z.oneCell'=true) :
 ∃ w',(Builtin.clear_ #[t] j #[.slice D n c]).run P w=.ok (.tuple #[]) w'/\Blk w' g d (splice b a (List.replicate n z)).toArray/\Keep [g] w w':=by
 obtain⟨i,hi,s,u,y⟩:=E.info;rcases BQ n with h | h
 . subst h
   refine⟨w,?_,by simpa [splice] using f,kq⟩;cases D <;> simp[Builtin.clear_,CE E.und]
 obtain rfl:=l h
 obtain⟨n',rfl⟩:∃ n',n=n'+1:=⟨n-1,Z⟩;have p:=run_storeCells_at P g a d (List.replicate (n'+1) z) 0 b.toArray w f (uq m) (by intro v q;rw[(List.mem_replicate.1 q).2];exact o);refine⟨w.setRow g (splice b a (List.replicate (n'+1) z)).toArray,?_,?_,?_⟩
 . simp only[Builtin.clear_,List.getElem?_toArray,Bj,B8,CE E.und,BV,E.run_zero,E.one,Yd,p]
   simp[splice]
 . show _=_
   simpa [splice] using Df w g _ _ d _ f
 exact⟨rfl,rfl,rfl,by simp[World.setRow],fun k A r=>DY w g k _ (uq r)⟩