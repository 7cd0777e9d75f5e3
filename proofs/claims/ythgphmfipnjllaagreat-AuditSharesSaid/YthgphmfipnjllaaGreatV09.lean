/- Lemmas of the proof, with their conditions. -/
import Derived.Test.YthgphmfipnjllaaGreatV02
import Derived.Test.YthgphmfipnjllaaGreatV08
import Derived.Test.YthgphmfipnjllaaGreatV04
import Derived.Shelf.RegionOpen
import Derived.LoopNIn
import Derived.LoopIn
namespace Go.Proofs.YthgphmfipnjllaaGreat
set_option linter.unusedSimpArgs false
set_option linter.unusedVariables false
set_option maxHeartbeats 2000000
set_option maxRecDepth 100000
section
open Go.RowKit Go.Shelf
attribute [local go_sem] Oper.semAt_some
def YAC (g o:Nat) (x:Nat):Array Value:=#[.slice (some ⟨g,o+64*x,none⟩) 64 64]
def YAz (g q:Nat) (h:Option Obj) (pre:List Nat) (x:Nat) (W:World):Prop:=x=pre.length∧x<q∧W.heap[g]? = h
def KAu (g b1 b2:Nat) (v:Value) (W W':World):Prop:=W'.heap[g]? = W.heap[g]? ∧ (Boxed W b1 39 v→Boxed W' b1 39 v)∧(Boxed W b2 3 (.int .i64 64)→Boxed W' b2 3 (.int .i64 64))
theorem Kt (n:Nat) (v:Value) (w:World) (hv:v.oneCell'=true) :
 CallsIn Fence.wide n Tryz.prog 287 #[v,.int .i64 64] w fun e w'=>e=.returned (.func (.func 348) #[] #[.pointer (some ⟨w.heap.size,0,none⟩),.pointer (some ⟨w.heap.size+1,0,none⟩)])∧w'=(w.alloc (.cells #[v] 39)).alloc (.cells #[.int .i64 64] 3):=by
 refine(callsIn_wide (n:=n)).2 ?_
 go_enter Tryz.func287,Tryz.ntmps287
 go_wp2
 go_ret
 exact⟨rfl,rfl⟩
theorem Vf (n b1 b2 g o q c:Nat) (w:World) (hq:q≤1000) (hc:64*q≤c) (h1:Boxed w b1 39 (.slice (some ⟨g,o,none⟩) (64*q) c)) (h2:Boxed w b2 3 (.int .i64 64)) (hg:g<w.heap.size) :
 XBD n Tryz.prog 348 #[.pointer (some ⟨b1,0,none⟩),.pointer (some ⟨b2,0,none⟩)] (YAC g o) (YAz g q w.heap[g]?) (KAu g b1 b2 (.slice (some ⟨g,o,none⟩) (64*q) c)) (fun xs=>xs=List.range q) w:=by
 intro l J W hW hJ hY h0
 have hgW:W.heap[g]? = w.heap[g]? := hW.block g hg (by simp)
 replace h1:Boxed W b1 39 (.slice (some ⟨g,o,none⟩) (64*q) c):=(hW.block b1 h1.lt (by simp)).trans h1
 replace h2:Boxed W b2 3 (.int .i64 64):=(hW.block b2 h2.lt (by simp)).trans h2
 refine callsIn_of_wp Tryz.func348 rfl trivial ?_ rfl
 simp only[Tryz.ntmps348,List.size_toArray,List.length_cons,List.length_nil,Nat.reduceAdd,Nat.reduceSub,Array.replicate_succ,Array.replicate_zero,List.push_toArray,List.append_toArray,List.nil_append,List.cons_append]
 obtain⟨Q,hQ⟩:∃ Q,Q=64*q:=⟨_,rfl⟩
 rw[← hQ] at h1 hY hc
 have HQ:=ZB hQ
 clear hQ
 gi_wp2
 gi_loopw [4,5] (fun i _ wr=>∃ (k:Nat) (pre:List Nat),k≤q∧Hid (i=.int .i64 ((64*k:Nat)))∧J pre wr∧Hid (pre=List.range k)∧wr.heap[g]? = w.heap[g]? ∧ Boxed wr b1 39 (.slice (some ⟨g,o,none⟩) Q c)∧Boxed wr b2 3 (.int .i64 64))
  (fun i _ _=>Q-(intOf i).toNat)
 case atStart=>exact⟨0,[],Nat.zero_le _,rfl,h0,rfl,hgW,h1,h2⟩
 case round=>
  clear h1 h2 h0 hgW
  obtain⟨k,pre,hk,hi,hJp,hpre,hgr,hb1,hb2⟩:=hrel
  have hi':=QA hi
  obtain⟨i,hik⟩:∃ i,i=64*k:=⟨_,rfl⟩
  rw[← hik] at hi'
  subst hi'
  have HI:=ZB hik
  clear hi hik
  have hc1:=hb1.cell
  have hc2:=hb2.cell
  by_cases hlt:i<Q
  · have hQ:=QA HQ
    have hik:=QA HI
    have hltI:((i:Nat):Int)<(Q:Nat):=by omega
    have hiQ:i+64≤Q:=by omega
    have hQc:Q≤64000:=by omega
    have hkq:k<q:=by omega
    have hle:i≤Q:=by omega
    have hci:¬ c=i:=by omega
    have hc64:i+64≤c:=by omega
    have hmin:((64:Int)≤((Q-i:Nat):Int)):=by omega
    have hw64:IntKind.i64.wrap ((i:Nat)+64:Int)=(i:Nat)+64:=by rw[IntKind.wrap_i64];omega
    have hn64:((i:Nat)+64:Int).toNat=i+64:=by omega
    have hI64:((i:Nat)+64:Int)≤(c:Nat):=by omega
    clear hQ hik
    gi_wp2
    refine wpIn_wide.2 ?_
    refine ZT (fun w'=>w'.cell? ⟨b1,0,none⟩=some (.slice (some ⟨g,o,none⟩) Q c)∧w'.cell? ⟨b2,0,none⟩=some (.int .i64 64)) 5 [[0,1,2,3,4]] ⟨hc1,hc2⟩ ?_
    simp only[PI]
    iterate 5 (refine ZH ?_;simp only[Act.put,PU])
    refine JB ?_
    go_wp2_with fail
    obtain⟨fn,tmps,assign,body,hy,hR⟩:=hY pre k wr.drew (hJ _ _ _ hJp (Keep.refl [] _).drew) ⟨by have:=QA hpre;rw[this];simp,hkq,hgr⟩
    dsimp only[YAC] at hy
    rw[← QA HI] at hy
    gi_wp2
    refine⟨fun h=>by simp[Fence.wide] at h,hR.mono ?_⟩
    rintro e W3 ⟨rfl,hJ3,hg3,hb13,hb23⟩
    have hd1:=hb13 hb1
    have hd2:=hb23 hb2
    have hc2':=hd2.cell
    clear hy hR hc1 hc2
    gi_wp2
    go_roundw
    case rel=>
     refine⟨k+1,_,hkq,(by show _=_;have:=QA HI;congr 1;omega),hJ3,(by show _=_;rw[QA hpre,List.range_succ]),hg3.trans hgr,hd1,hd2⟩
    case measure=>simp[intOf];omega
  · have hQ:=QA HQ
    have hik:=QA HI
    obtain rfl:k=q:=by omega
    have hiQ:¬ ((i:Nat):Int)<(Q:Nat):=by omega
    clear hQ hik
    gi_wp2
    go_end0
    have e:=QA hpre
    rw[← e]
    exact⟨⟨_,rfl⟩,hJp⟩
end
end Go.Proofs.YthgphmfipnjllaaGreat
