/- Lemmas of the proof, with their conditions. -/
import Derived.Test.YtfedaknhecbehaaGreatM02
import Derived.OwnWalkIn
import Derived.OrdersIn
namespace Go.Proofs.YtfedaknhecbehaaGreat
open Tryz
variable {n r m id:Nat} {w:World} {l:List Oper} {a:Act}
set_option linter.all false
section
open Go.RowKit
variable {P:Program} {ops:Array Oper} {md:Region.Mode} {S:World->Prop} {Q:Exit->Act->World->Prop}
theorem VAX {a:String} {b:Array Value} {R:Value->World->Prop} (h:Rows P a b w R):RowsIn Fence.wide n P a b w R:=
 fun c cs _=>let ⟨v,w',r,s⟩:=h c cs;⟨v,w',r,stepsIn_wide.2 s⟩
theorem YAB {l:Nat} {o:Oper} {next:Act->World->Prop} {r:Result Next} (h:o.upon P a next Q r):o.uponIn (Fence.wide.inRound l) n P a next Q r:=by
 cases r with
 | ok x w'=>
   cases x <;> simp only[Oper.upon] at h <;> simp only[Oper.uponIn] <;> first
    | exact h
    | exact⟨fun h=>by simp[Fence.wide] at h,AQ.2 h⟩
    | exact⟨fun h=>by simp[Fence.wide] at h,VAX h⟩
 | halt x w'=>cases x <;> simp only[Oper.upon] at h <;> simp only[Oper.uponIn] <;> exact h
theorem KAB {l i:Nat} {K:Act->World->Prop} (d:∀ (i:Nat) (o:Oper) c,ops[i]? = some o->o.op≠.defer c) (e:¬ LetsOut Q) (h:wpOp P ops Q i K a w) :
 wpOpIn (Fence.wide.inRound l) n P ops Q i K a w:=by
 unfold wpOp at h;unfold wpOpIn
 cases ho:ops[i]? with
 | none=>simpa only[ho] using h
 | some o=>
   simp only[ho] at h ⊢
   split
   . rename_i b
     rw[AJ b] at h;rcases h with h | h
     . refine⟨fun _ _=>trivial,?_⟩
       rw[Oper.semAt_plain _ _ _ (d i o · ho)];exact YAB h
     exact absurd h.2 e
   rename_i b
   rw[AF b] at h;exact⟨fun _ _=>trivial,h⟩
theorem QX {l:Nat} (b:∀ (i:Nat) (o:Oper) c,ops[i]? = some o->o.op≠.defer c) (d:¬ LetsOut Q) :
 ∀ (f:Nat) (e:Array Bool) (a:Act) (w:World),wpAny P md ops Q f e a w->wpAnyIn (Fence.wide.inRound l) n P md ops Q f e a w
 | 0,_,_,_,h=>h
 | f+1,_,_,_,h=>⟨h.1,fun i hi=>wpOpIn_mono (fun g w' j=>QX b d f _ g w' j) (KAB b d (h.2 i hi))⟩
def Region.noDefer (ops:List Oper):Bool:=ops.all fun o=>match o.op with | .defer _=>false | _=>true
theorem Region.noDefer_spec {ops:List Oper} (h:Region.noDefer ops=true):∀ (i:Nat) (o:Oper) c,ops.toArray[i]? = some o->o.op≠.defer c:=by
 intro i o c a b;have d:o∈ops:=Bz (uq a);have:=List.all_eq_true.1 h o d;simp[b] at this
theorem Jv {S:World->Prop} (n:Nat) (p:List (Nat×Bool)) (b:Region.htB .any l.toArray n p=true)
 (k:∀ c a d v w,Q (.panic c) (a.put d v) w->Q (.panic c) a w) (m:S w.drew)
 (h:wpT P l.toArray Q S (wpList P l.toArray Q (l.drop n)) (YO l p) a w.drew):wpAny P .any l.toArray Q l.toArray.size (Array.replicate l.toArray.size false) a w.drew:=by
 simp only[Region.htB,Al,C1,AY] at b;obtain⟨⟨⟨⟨⟨o,q⟩,r⟩,s⟩,u⟩,y⟩:=b
 have z:HeadInv .any l.toArray n (Array.replicate l.toArray.size false):=
  ⟨sq,fun j D _ e=>(by rw[getD_replicate_false] at e;cases e),fun t _ A=>getD_in (uq A) (getD_replicate_false _ _)⟩
 have H:=Xc o s u q k p _ a w.drew z y m h;have f:(l.drop n).length=l.toArray.size-n:=sq
 have:=XQ (Q:=Q) (g:=l.toArray.size-n) (fun B C w' i=>by
  have:=wpAny_of_seq (md:=.any) (Q':=Q) (l.drop n) n B C w' (fun j=>by simp[BT]) (by rw[f];exact i.1) i.2
  rwa [f] at this) _ _ _ _ H
 rw[r,show n+(l.toArray.size-n)=l.toArray.size from Z] at this;exact this
theorem Zy {S:World->Prop} (n:Nat) (p:RT) (b:Region.rtB .any l.toArray n p=true)
 (m:∀ c a d v w,Q (.panic c) (a.put d v) w->Q (.panic c) a w) (o:S w.drew)
 (h:wpR P l.toArray Q S (wpList P l.toArray Q (l.drop n)) (p.pick l) a w.drew):wpAny P .any l.toArray Q l.toArray.size (Array.replicate l.toArray.size false) a w.drew:=by
 simp only[Region.rtB,Al,AY] at b;obtain⟨⟨⟨⟨⟨q,e⟩,r⟩,s⟩,u⟩,y⟩:=b;have D:n<l.length:=uq e
 have z:HeadInv .any l.toArray n (Array.replicate l.toArray.size false):=
  ⟨sq,fun j E _ f=>(by rw[getD_replicate_false] at f;cases f),fun t _ A=>getD_in (uq A) (getD_replicate_false _ _)⟩
 have H:=wpHL_of_wpR q s u e m p _ a w.drew z y o h;have i:(l.drop n).length=l.toArray.size-n:=sq
 have:=XQ (Q:=Q) (g:=l.toArray.size-n) (fun B C w' k=>by
  have:=wpAny_of_seq (md:=.any) (Q':=Q) (l.drop n) n B C w' (fun j=>by simp[BT]) (by rw[i];exact k.1) k.2
  rwa [i] at this) _ _ _ _ H
 rw[r,show n+(l.toArray.size-n)=l.toArray.size from Z] at this;exact this
theorem ZAC {S:World->Prop} (n:Nat) (p:List (Nat×Bool)) (f:P.follows .mixedOrders=true) (b:(Region.htB .any l.toArray n p && Region.noDefer l)=true)
 (e:(∀ c a d v w,Q (.panic c) (a.put d v) w->Q (.panic c) a w)/\¬ LetsOut Q) (g:S w.drew)
 (h:wpT P l.toArray Q S (wpList P l.toArray Q (l.drop n)) (YO l p) a w.drew):(Code.region id l.toArray true).wpIn (Fence.wide.inRound r) m P Q a w:=by
 rw[Al] at b;exact wpIn_region_any f (QX (Region.noDefer_spec b.2) e.2 _ _ _ _ (Jv n p b.1 e.1 g h))
theorem QAC {S:World->Prop} (n:Nat) (p:RT) (f:P.follows .mixedOrders=true) (b:(Region.rtB .any l.toArray n p && Region.noDefer l)=true)
 (e:(∀ c a d v w,Q (.panic c) (a.put d v) w->Q (.panic c) a w)/\¬ LetsOut Q) (g:S w.drew)
 (h:wpR P l.toArray Q S (wpList P l.toArray Q (l.drop n)) (p.pick l) a w.drew):(Code.region id l.toArray true).wpIn (Fence.wide.inRound r) m P Q a w:=by
 rw[Al] at b;exact wpIn_region_any f (QX (Region.noDefer_spec b.2) e.2 _ _ _ _ (Zy n p b.1 e.1 g h))
theorem ZI {P:Program} {Q:Exit->Act->World->Prop} {S:World->Prop} (n:Nat) (p:List (List Nat)) (b:S w.drew)
 (h:wpT P l.toArray Q S (wpList P l.toArray Q (l.drop n)) (YO l (OD p)) a w.drew) (e:P.follows .mixedOrders=true:=by kernel_rfl) (f:(Region.htB .any l.toArray n (OD p) && Region.noDefer l)=true:=by kernel_rfl)
 (g:(∀ c a d v w,Q (.panic c) (a.put d v) w->Q (.panic c) a w)/\¬ LetsOut Q:=by exact⟨(fun _ _ d _ _ h=>by cases d <;> exact h),(fun h=>by obtain⟨_,_,h⟩:=h;exact h)⟩):(Code.region id l.toArray true).wpIn (Fence.wide.inRound r) m P Q a w:=ZAC (S:=S) n _ e f g b h
theorem ZJ {P:Program} {Q:Exit->Act->World->Prop} {S:World->Prop} (n:Nat) (p:RT) (b:S w.drew)
 (h:wpR P l.toArray Q S (wpList P l.toArray Q (l.drop n)) (p.pick l) a w.drew) (e:P.follows .mixedOrders=true:=by kernel_rfl) (f:(Region.rtB .any l.toArray n p && Region.noDefer l)=true:=by kernel_rfl)
 (g:(∀ c a d v w,Q (.panic c) (a.put d v) w->Q (.panic c) a w)/\¬ LetsOut Q:=by exact⟨(fun _ _ d _ _ h=>by cases d <;> exact h),(fun h=>by obtain⟨_,_,h⟩:=h;exact h)⟩):(Code.region id l.toArray true).wpIn (Fence.wide.inRound r) m P Q a w:=QAC (S:=S) n p e f g b h