/- Lemmas of the proof, with their conditions. -/
import Derived.Test.YthgphmfipnjllaaGreatV03
import Derived.OwnWalkIn
import Derived.OrdersIn
namespace Go.Proofs.YthgphmfipnjllaaGreat
set_option linter.unusedSimpArgs false
set_option linter.unusedVariables false
section
open Go.RowKit
variable {P:Program} {ops:Array Oper} {md:Region.Mode} {S:World→Prop} {Q:Exit→Act→World→Prop}
theorem KAG {n:Nat} {row:String} {args:Array Value} {w:World} {R:Value→World→Prop} (h:Rows P row args w R):RowsIn Fence.wide n P row args w R:=
 fun c cs _=>let ⟨v,w',r,s⟩:=h c cs;⟨v,w',r,stepsIn_wide.2 s⟩
theorem Xp {l n:Nat} {o:Oper} {a:Act} {next:Act→World→Prop} {r:Result Next} (h:o.upon P a next Q r):o.uponIn (Fence.wide.inRound l) n P a next Q r:=by
 cases r with
 | ok x w'=>
   cases x <;> simp only[Oper.upon] at h <;> simp only[Oper.uponIn] <;> first
    | exact h
    | exact⟨fun h=>by simp[Fence.wide] at h,callsIn_wide.2 h⟩
    | exact⟨fun h=>by simp[Fence.wide] at h,KAG h⟩
 | halt x w'=>cases x <;> simp only[Oper.upon] at h <;> simp only[Oper.uponIn] <;> exact h
theorem Yo {l n i:Nat} {K:Act→World→Prop} {a:Act} {w:World} (hd:∀ (i:Nat) (o:Oper) c,ops[i]? = some o→o.op≠.defer c) (hl:¬ LetsOut Q) (h:wpOp P ops Q i K a w) :
 wpOpIn (Fence.wide.inRound l) n P ops Q i K a w:=by
 unfold wpOp at h
 unfold wpOpIn
 cases ho:ops[i]? with
 | none=>simpa only[ho] using h
 | some o=>
   simp only[ho] at h ⊢
   split
   · rename_i hw
     rw[if_pos hw] at h
     rcases h with h | h
     · refine⟨fun _ _=>trivial,?_⟩
       rw[Oper.semAt_plain _ _ _ (hd i o · ho)]
       exact Xp h
     · exact absurd h.2 hl
   · rename_i hw
     rw[if_neg hw] at h
     exact⟨fun _ _=>trivial,h⟩
theorem YV {l n:Nat} (hd:∀ (i:Nat) (o:Oper) c,ops[i]? = some o→o.op≠.defer c) (hl:¬ LetsOut Q) :
 ∀ (f:Nat) (listed:Array Bool) (a:Act) (w:World),wpAny P md ops Q f listed a w→wpAnyIn (Fence.wide.inRound l) n P md ops Q f listed a w
 | 0,_,_,_,h=>h
 | f+1,_,_,_,h=>⟨h.1,fun i hi=>wpOpIn_mono (fun a' w' h'=>YV hd hl f _ a' w' h') (Yo hd hl (h.2 i hi))⟩
def Region.noDefer (ops:List Oper):Bool:=ops.all fun o=>match o.op with | .defer _=>false | _=>true
theorem Region.noDefer_spec {ops:List Oper} (h:Region.noDefer ops=true):∀ (i:Nat) (o:Oper) c,ops.toArray[i]? = some o→o.op≠.defer c:=by
 intro i o c ho hc
 have hm:o∈ops:=List.mem_of_getElem? (by simpa using ho)
 have:=List.all_eq_true.1 h o hm
 simp[hc] at this
theorem Kj {a:Act} {w:World} {l:List Oper} (S:World→Prop) (n:Nat) (p:List (Nat×Bool)) (hB:Region.htB .any l.toArray n p=true)
 (hQ:∀ c a d v w,Q (.panic c) (a.put d v) w→Q (.panic c) a w) (hS:S w.drew)
 (h:wpT P l.toArray Q S (wpList P l.toArray Q (l.drop n)) (VJ l p) a w.drew):wpAny P .any l.toArray Q l.toArray.size (Array.replicate l.toArray.size false) a w.drew:=by
 simp only[Region.htB,Bool.and_eq_true,decide_eq_true_eq] at hB
 obtain⟨⟨⟨⟨⟨hsel,hn⟩,hpl⟩,hs⟩,hc⟩,hord⟩:=hB
 have hn':n<l.length:=by simpa using hn
 have inv0:HeadInv .any l.toArray n (Array.replicate l.toArray.size false):=
  ⟨by simp,fun j oj _ hl=>(by rw[getD_replicate_false] at hl;cases hl),fun t _ ht=>getD_in (by simpa using ht) (getD_replicate_false _ _)⟩
 have H:=JT hsel hs hc hn hQ p _ a w.drew inv0 hord hS h
 have hdl:(l.drop n).length=l.toArray.size-n:=by simp
 have:=JM (Q:=Q) (g:=l.toArray.size-n) (fun listed a' w' hL=>by
  have:=wpAny_of_seq (md:=.any) (Q':=Q) (l.drop n) n listed a' w' (fun j=>by simp[List.getElem?_drop]) (by rw[hdl];exact hL.1) hL.2
  rwa [hdl] at this) _ _ _ _ H
 rw[hpl,show n+(l.toArray.size-n)=l.toArray.size by omega] at this
 exact this
theorem Qq {r m id:Nat} {a:Act} {w:World} {l:List Oper} (S:World→Prop) (n:Nat) (p:List (Nat×Bool)) (hm:P.follows .mixedOrders=true) (hB:(Region.htB .any l.toArray n p && Region.noDefer l)=true)
 (hQ:(∀ c a d v w,Q (.panic c) (a.put d v) w→Q (.panic c) a w)∧¬ LetsOut Q) (hS:S w.drew)
 (h:wpT P l.toArray Q S (wpList P l.toArray Q (l.drop n)) (VJ l p) a w.drew):(Code.region id l.toArray true).wpIn (Fence.wide.inRound r) m P Q a w:=by
 rw[Bool.and_eq_true] at hB
 exact wpIn_region_any hm (YV (Region.noDefer_spec hB.2) hQ.2 _ _ _ _ (Kj S n p hB.1 hQ.1 hS h))
theorem ZI {P:Program} {Q:Exit→Act→World→Prop} {r m id:Nat} {a:Act} {w:World} {l:List Oper} (S:World→Prop) (n:Nat) (p:List (List Nat)) (hS:S w.drew)
 (h:wpT P l.toArray Q S (wpList P l.toArray Q (l.drop n)) (VJ l (OD p)) a w.drew) (hm:P.follows .mixedOrders=true:=by kernel_rfl) (hB:(Region.htB .any l.toArray n (OD p) && Region.noDefer l)=true:=by kernel_rfl)
 (hQ:(∀ c a d v w,Q (.panic c) (a.put d v) w→Q (.panic c) a w)∧¬ LetsOut Q:=by exact⟨(fun _ _ d _ _ h=>by cases d <;> exact h),(fun h=>by obtain⟨_,_,h⟩:=h;exact h)⟩):(Code.region id l.toArray true).wpIn (Fence.wide.inRound r) m P Q a w:=Qq S n _ hm hB hQ hS h
end
end Go.Proofs.YthgphmfipnjllaaGreat
