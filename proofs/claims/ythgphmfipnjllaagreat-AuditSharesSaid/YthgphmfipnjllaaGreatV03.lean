/- Lemmas of the proof, with their conditions. -/
import Derived.Test.YthgphmfipnjllaaGreatV01
import Derived.StillTail
namespace Go.Proofs.YthgphmfipnjllaaGreat
set_option linter.unusedSimpArgs false
set_option linter.unusedVariables false
section
open Go.RowKit
variable {P:Program} {ops:Array Oper} {md:Region.Mode} {S:World→Prop} {Q:Exit→Act→World→Prop}
def JAy (P:Program) (md:Region.Mode) (ops:Array Oper) (Q:Exit→Act→World→Prop) (S:World→Prop) (n:Nat) (L:Array Bool→Act→World→Prop):Nat→Array Bool→Act→World→Prop
 | 0,listed,a,w=>L listed a w
 | f+1,listed,a,w=>
   Region.ready md ops listed≠[]∧∀ i∈Region.ready md ops listed,i<n∧wpOp P ops Q i (fun a' w'=>S w'∧JAy P md ops Q S n L f (listed.setIfInBounds i true) a' w') a w
theorem JM {n g:Nat} {L:Array Bool→Act→World→Prop} (hL:∀ listed a w,L listed a w→wpAny P md ops Q g listed a w) :
 ∀ (f:Nat) (listed:Array Bool) (a:Act) (w:World),JAy P md ops Q S n L f listed a w→wpAny P md ops Q (f+g) listed a w
 | 0,listed,a,w,h=>by rw[Nat.zero_add];exact hL _ _ _ h
 | f+1,listed,a,w,h=>by
   rw[show f+1+g=(f+g)+1 by omega]
   exact⟨fun h0=>absurd h0 h.1,fun i hi=>wpOp_mono (fun a' w' h'=>JM hL f _ a' w' h'.2) (h.2 i hi).2⟩
theorem Je {n i:Nat} {oi:Oper} {v:Value} {L:Array Bool→Act→World→Prop} (hi:ops[i]? = some oi) (hsel:∀ (j:Nat) (o:Oper) cs b,ops[j]? = some o→o.op≠.select cs b)
 (hs:Region.sinkB md ops n=true) (hc:Region.chainB md ops n=true) (hn:n<ops.size) (hin:i<n)
 (hdone:∀ listed a w,L listed a w→∀ j∈Region.ready md ops listed,n≤j) (hQ:∀ c a w,Q (.panic c) (a.put oi.dst v) w→Q (.panic c) a w) :
 ∀ (f:Nat) (listed:Array Bool) (a:Act) (w:World),HeadInv md ops n listed →
   (∀ j oj,ops[j]? = some oj→j≠i→listed.getD j true=false→(∀ e∈oj.after,Region.binds md e=true→e.on≠i)→oi.apart ops oj=true) →
   i∈Region.ready md ops listed→YieldsIf P ops S oi v a→S w →
   JAy P md ops Q S n L f (listed.setIfInBounds i true) (a.put oi.dst v) w→JAy P md ops Q S n L (f+1) listed a w:=by
 intro f
 induction f with
 | zero=>
   intro listed a w inv _ hr hy hS H
   have hun:=(mem_ready.1 hr).1
   refine⟨fun h=>(by rw[h] at hr;cases hr),fun j hj=>?_⟩
   have hjn:j<n:=by
    rcases Nat.lt_or_ge j n with h | h
    · exact h
    · exact absurd hj (tail_waits hs hc hn inv _ i rfl hin hun j h)
   refine⟨hjn,?_⟩
   by_cases hji:j=i
   · subst hji;exact hy.wpOp hi hS ⟨hS,H⟩
   · have:=hdone _ _ _ H j (ready_mono hj hji)
     omega
 | succ f ih=>
   intro listed a w inv hfree hr hy hS H
   have hun:=(mem_ready.1 hr).1
   refine⟨fun h=>(by rw[h] at hr;cases hr),fun j hj=>?_⟩
   have hjn:j<n:=by
    rcases Nat.lt_or_ge j n with h | h
    · exact h
    · exact absurd hj (tail_waits hs hc hn inv _ i rfl hin hun j h)
   refine⟨hjn,?_⟩
   by_cases hji:j=i
   · subst hji;exact hy.wpOp hi hS ⟨hS,H⟩
   · have h1:=(H.2 j (ready_mono hj hji)).2
     obtain⟨hjun,oj,hoj,hall⟩:=mem_ready.1 hj
     have hnot:∀ e∈oj.after,Region.binds md e=true→e.on≠i:=fun e he hb heq=>by
      have h1:=hall e he hb
      rw[heq,getD_both hun] at h1
      cases h1
     have h2:=wpOp_putIf hoj (hfree j oj hoj hji hjun hnot) (fun cs b=>hsel i oi cs b hi) (fun cs b=>hsel j oj cs b hoj) hQ hy h1
     have hfree':∀ k ok,ops[k]? = some ok→k≠i→(listed.setIfInBounds j true).getD k true=false →
      (∀ e∈ok.after,Region.binds md e=true→e.on≠i)→oi.apart ops ok=true:=fun k ok hk hki hun hno=>by
      refine hfree k ok hk hki ?_ hno
      by_cases hjk:j=k
      · subst hjk;exact hjun
      · rw[getD_set_ne true hjk] at hun;exact hun
     refine wpOp_mono (fun a' w' h3=>⟨h3.2.1,ih (listed.setIfInBounds j true) a' w' (inv.set hj hjn) hfree' (ready_mono hr (Ne.symm hji)) h3.1 h3.2.1 ?_⟩) h2
     rw[Array.setIfInBounds_comm _ _ hji]
     exact h3.2.2
def wpO (P:Program) (ops:Array Oper) (Q:Exit→Act→World→Prop) (o:Oper) (K:Act→World→Prop) (a:Act) (w:World):Prop:=
 if Region.wanted o (yielded ops a.tmps) then o.wp P a w K Q∨(o.asks P a w∧LetsOut Q) else K (a.put o.dst undef) w
def wpT (P:Program) (ops:Array Oper) (Q:Exit→Act→World→Prop) (S:World→Prop) (L:Act→World→Prop):List (Oper×Bool)→Act→World→Prop
 | [],a,w=>L a w
 | (o,false) :: rest,a,w=>∃ v,YieldsIf P ops S o v a∧wpT P ops Q S L rest (a.put o.dst v) w
 | (o,true) :: rest,a,w=>wpO P ops Q o (fun a' w'=>S w'∧wpT P ops Q S L rest a' w') a w
def VJ (l:List Oper) (p:List (Nat×Bool)):List (Oper×Bool):=p.filterMap fun(i,b)=>(l[i]?).map fun o=>(o,b)
def Region.orderB (md:Region.Mode) (ops:Array Oper) (n g:Nat):List (Nat×Bool)→Array Bool→Bool
 | [],listed=>Region.seqB md ops g n listed
 | (k,false) :: p,listed=>decide (k<n) && (Region.ready md ops listed).contains k && Region.free md ops listed k && Region.orderB md ops n g p (listed.setIfInBounds k true)
 | (k,true) :: p,listed=>decide (k<n) && decide (Region.ready md ops listed=[k]) && Region.orderB md ops n g p (listed.setIfInBounds k true)
def Region.htB (md:Region.Mode) (ops:Array Oper) (n:Nat) (p:List (Nat×Bool)):Bool:=
 Region.noSelect ops && decide (n<ops.size) && decide (p.length=n) && Region.sinkB md ops n && Region.chainB md ops n && Region.orderB md ops n (ops.size-n) p (Array.replicate ops.size false)
theorem JT {l:List Oper} {n g:Nat} {Lq:Act→World→Prop} (hsel:Region.noSelect l.toArray=true) (hs:Region.sinkB md l.toArray n=true) (hc:Region.chainB md l.toArray n=true) (hn:n<l.toArray.size)
 (hQ:∀ c a d v w,Q (.panic c) (a.put d v) w→Q (.panic c) a w) :
 ∀ (p:List (Nat×Bool)) (listed:Array Bool) (a:Act) (w:World),HeadInv md l.toArray n listed→Region.orderB md l.toArray n g p listed=true→S w →
   wpT P l.toArray Q S Lq (VJ l p) a w→JAy P md l.toArray Q S n (fun listed' a' w'=>Region.seqB md l.toArray g n listed'=true∧Lq a' w') p.length listed a w
 | [],listed,a,w,_,hB,_,h=>⟨by simpa [Region.orderB] using hB,by simpa [VJ,wpT] using h⟩
 | (k,false) :: p,listed,a,w,inv,hB,hS,h=>by
   simp only[Region.orderB,Bool.and_eq_true,decide_eq_true_eq] at hB
   obtain⟨⟨⟨hk,hr⟩,hf⟩,hB'⟩:=hB
   have hr':k∈Region.ready md l.toArray listed:=by simpa using hr
   obtain⟨_,o,ho,_⟩:=mem_ready.1 hr'
   have ho':l[k]? = some o:=by simpa using ho
   have hp:VJ l ((k,false) :: p)=(o,false) :: VJ l p:=by simp[VJ,ho']
   rw[hp] at h
   obtain⟨v,hy,hK⟩:=h
   exact Je ho (Region.noSelect_spec hsel) hs hc hn hk (fun listed' a' w' hL=>seqB_ready hL.1) (fun c a w=>hQ c a _ _ w) p.length listed a w inv (Region.free_spec ho hf) hr' hy hS
    (JT hsel hs hc hn hQ p _ _ _ (inv.set hr' hk) hB' hS hK)
 | (k,true) :: p,listed,a,w,inv,hB,hS,h=>by
   simp only[Region.orderB,Bool.and_eq_true,decide_eq_true_eq] at hB
   obtain⟨⟨hk,hr⟩,hB'⟩:=hB
   have hr':k∈Region.ready md l.toArray listed:=by rw[hr];simp
   obtain⟨_,o,ho,_⟩:=mem_ready.1 hr'
   have ho':l[k]? = some o:=by simpa using ho
   have hp:VJ l ((k,true) :: p)=(o,true) :: VJ l p:=by simp[VJ,ho']
   rw[hp] at h
   refine⟨fun h0=>(by rw[h0] at hr';cases hr'),fun i hi=>?_⟩
   rw[hr] at hi
   obtain rfl:i=k:=by simpa using hi
   refine⟨hk,?_⟩
   have hw:wpOp P l.toArray Q i (fun a' w'=>S w'∧wpT P l.toArray Q S Lq (VJ l p) a' w') a w:=by
    unfold wpOp
    simp only[ho]
    exact h
   exact wpOp_mono (fun a' w' h'=>⟨h'.1,JT hsel hs hc hn hQ p _ _ _ (inv.set hr' hk) hB' h'.1 h'.2⟩) hw
theorem YAA {id:Nat} {a:Act} {w:World} {l:List Oper} (S:World→Prop) (n:Nat) (p:List (Nat×Bool)) (hm:P.follows .mixedOrders=true) (hB:Region.htB .any l.toArray n p=true)
 (hQ:∀ c a d v w,Q (.panic c) (a.put d v) w→Q (.panic c) a w) (hS:S w.drew)
 (h:wpT P l.toArray Q S (wpList P l.toArray Q (l.drop n)) (VJ l p) a w.drew):(Code.region id l.toArray true).wp P Q a w:=by
 simp only[Region.htB,Bool.and_eq_true,decide_eq_true_eq] at hB
 obtain⟨⟨⟨⟨⟨hsel,hn⟩,hpl⟩,hs⟩,hc⟩,hord⟩:=hB
 have hn':n<l.length:=by simpa using hn
 have inv0:HeadInv .any l.toArray n (Array.replicate l.toArray.size false):=
  ⟨by simp,fun j oj _ hl=>(by rw[getD_replicate_false] at hl;cases hl),fun t _ ht=>getD_in (by simpa using ht) (getD_replicate_false _ _)⟩
 have H:=JT hsel hs hc hn hQ p _ a w.drew inv0 hord hS h
 refine wp_region_any hm ?_
 have hdl:(l.drop n).length=l.toArray.size-n:=by simp
 have:=JM (Q:=Q) (g:=l.toArray.size-n) (fun listed a' w' hL=>by
  have:=wpAny_of_seq (md:=.any) (Q':=Q) (l.drop n) n listed a' w' (fun j=>by simp[List.getElem?_drop]) (by rw[hdl];exact hL.1) hL.2
  rwa [hdl] at this) _ _ _ _ H
 rw[hpl,show n+(l.toArray.size-n)=l.toArray.size by omega] at this
 exact this
/-! ### The moves -/
section moves
variable {L:Act→World→Prop} {o:Oper} {rest:List (Oper×Bool)} {a:Act} {w:World}
theorem JB (h:L a w):wpT P ops Q S L [] a w:=h
theorem KM (v:Value) (hw:Region.wanted o (yielded ops a.tmps)=true) (hy:∀ w,S w→(execOp a.eval o).run P w=.ok (.value v) w) (h:wpT P ops Q S L rest (a.put o.dst v) w) :
 wpT P ops Q S L ((o,false) :: rest) a w:=⟨v,.inl ⟨hw,hy⟩,h⟩
theorem YT (hw:Region.wanted o (yielded ops a.tmps)=false) (h:wpT P ops Q S L rest (a.put o.dst undef) w) :
 wpT P ops Q S L ((o,false) :: rest) a w:=⟨undef,.inr ⟨hw,rfl⟩,h⟩
theorem QU (hw:Region.wanted o (yielded ops a.tmps)=false) (hS:S w) (h:wpT P ops Q S L rest (a.put o.dst undef) w) :
 wpT P ops Q S L ((o,true) :: rest) a w:=by
 show wpO P ops Q o _ a w
 unfold wpO
 rw[if_neg (by rw[hw];simp)]
 exact⟨hS,h⟩
theorem XB (hw:Region.wanted o (yielded ops a.tmps)=true) (h:∀ K:Act→World→Prop,(∀ a' w',S w'→wpT P ops Q S L rest a' w'→K a' w')→o.wp P a w K Q) :
 wpT P ops Q S L ((o,true) :: rest) a w:=by
 show wpO P ops Q o _ a w
 unfold wpO
 rw[if_pos hw]
 exact .inl (h _ fun a' w' h1 h2=>⟨h1,h2⟩)
end moves
def OD:List (List Nat)→List (Nat×Bool)
 | []=>[]
 | q :: r=>q.map (fun k=>(k,false))++r.flatMap (fun s=>match s with | []=>[] | k :: q=>(k,true) :: q.map (fun k=>(k,false)))
theorem ZT {P:Program} {Q:Exit→Act→World→Prop} {id:Nat} {a:Act} {w:World} {l:List Oper} (S:World→Prop) (n:Nat) (p:List (List Nat)) (hS:S w.drew)
 (h:wpT P l.toArray Q S (wpList P l.toArray Q (l.drop n)) (VJ l (OD p)) a w.drew) (hm:P.follows .mixedOrders=true:=by kernel_rfl) (hB:Region.htB .any l.toArray n (OD p)=true:=by kernel_rfl)
 (hQ:∀ c a d v w,Q (.panic c) (a.put d v) w→Q (.panic c) a w:=by exact fun _ _ d _ _ h=>by cases d <;> exact h):(Code.region id l.toArray true).wp P Q a w:=YAA S n _ hm hB hQ hS h
theorem ZH {P:Program} {ops:Array Oper} {S:World→Prop} {Q:Exit→Act→World→Prop} {L:Act→World→Prop} {o:Oper} {rest:List (Oper×Bool)} {a:Act} {w:World} {v:Value} (h:wpT P ops Q S L rest (a.put o.dst v) w) (hw:Region.wanted o (yielded ops a.tmps)=true:=by rfl)
 (hy:∀ w,S w→(execOp a.eval o).run P w=.ok (.value v) w:=by(intro W hW;go_simp;try with_reducible rfl)):wpT P ops Q S L ((o,false) :: rest) a w:=KM v hw hy h
theorem PU {α:Type}:(∀ (l:List α) (i:Nat) (x:α),l.toArray.setIfInBounds i x=(l.set i x).toArray)∧(∀ (a b:α) (l:List α),(a :: l).set 0 b=b :: l)∧(∀ (a b:α) (l:List α) (n:Nat),(a :: l).set (n+1) b=a :: l.set n b):=⟨fun _ _ _=>List.setIfInBounds_toArray ..,fun _ _ _=>rfl,fun _ _ _ _=>rfl⟩
theorem PJ {α:Type}:(∀ (a:α) (l:List α),(a :: l)[0]? = some a)∧(∀ (a:α) (l:List α) (n:Nat),(a :: l)[n+1]? = l[n]?)∧(∀ (a:α) (l:List α) (n:Nat),(a :: l).drop (n+1)=l.drop n)∧(∀ (l:List α),l.drop 0=l):=⟨fun _ _=>rfl,fun _ _ _=>rfl,fun _ _ _=>rfl,fun _=>rfl⟩
theorem PI:(∀ (l:List Oper) (i:Nat) (b:Bool) (p:List (Nat×Bool)),VJ l ((i,b) :: p)=((l[i]?).map fun o=>(o,b)).toList++VJ l p)∧(∀ (l:List Oper),VJ l []=[])∧(∀ (a:Oper) (l:List Oper),(a :: l)[0]? = some a)∧(∀ (a:Oper) (l:List Oper) (n:Nat),(a :: l)[n+1]? = l[n]?)∧(∀ (f:Oper→Oper×Bool) (a:Oper),(some a).map f=some (f a))∧(∀ (a:Oper×Bool),(some a).toList=[a])∧(∀ (a:Oper×Bool) (l:List (Oper×Bool)),[a]++l=a :: l)∧(∀ (a:Oper) (l:List Oper) (n:Nat),(a :: l).drop (n+1)=l.drop n)∧(∀ (l:List Oper),l.drop 0=l)∧(∀ (l:List Oper) (k:Nat) (q:List Nat) (r:List (List Nat)),VJ l (OD ((k :: q) :: r))=((l[k]?).map fun o=>(o,false)).toList++VJ l (OD (q :: r)))∧(∀ (l:List Oper) (k:Nat) (q:List Nat) (r:List (List Nat)),VJ l (OD ([] :: (k :: q) :: r))=((l[k]?).map fun o=>(o,true)).toList++VJ l (OD (q :: r)))∧(∀ (l:List Oper),VJ l (OD [[]])=[]):=
 have H:∀ (l:List Oper) (i:Nat) (b:Bool) (p:List (Nat×Bool)),VJ l ((i,b) :: p)=((l[i]?).map fun o=>(o,b)).toList++VJ l p:=fun l i b p=>by unfold VJ;cases h:l[i]? <;> simp[List.filterMap_cons,h]
 ⟨H,fun _=>rfl,fun _ _=>rfl,fun _ _ _=>rfl,fun _ _=>rfl,fun _=>rfl,fun _ _=>rfl,fun _ _ _=>rfl,fun _=>rfl,fun l k q r=>H l k false (OD (q :: r)),fun l k q r=>H l k true (OD (q :: r)),fun _=>rfl⟩
end
section
open Go.RowKit
def Grow (w:World) (l l':List Nat):Prop:=∀ x∈l',x∈l∨w.heap.size≤x
theorem Grow.refl (w:World) (l:List Nat):Grow w l l:=fun _ h=>.inl h
theorem Grow.trans {w w1:World} {l l1 l2:List Nat} (h:Grow w l l1) (hs:w.heap.size≤w1.heap.size) (k:Grow w1 l1 l2):Grow w l l2:=fun x hx=>by
 rcases k x hx with h1 | h1
 · exact h x h1
 · exact .inr (by omega)
theorem Keep.grow {l l':List Nat} {w w1 w2:World} (h:Keep l w w1) (k:Keep l' w1 w2) (hg:Grow w l l'):Keep l w w2:=h.trans k hg
theorem own_ne {w:World} {b n m s s' base base':Nat} {v u:Value} {xs ys:List Value} {e e':TypeId} (h:w.ownsRow base e s v n xs) (h':w.ownsRow base' e' s' u m ys) (hne:e≠e') (hb:v.ownBlock=some b):u.ownBlock≠some b:=by
 rcases h.2 with⟨rfl,_⟩ | ⟨g,cap,cur,rfl,_,hg,_⟩
 · simp[Value.ownBlock] at hb
 · obtain rfl:g=b:=by simpa [Value.ownBlock] using hb
   rcases h'.2 with⟨rfl,_⟩ | ⟨g',cap',cur',rfl,_,hg',_⟩
   · simp[Value.ownBlock]
   · simp only[Value.ownBlock,ne_eq,Option.some.injEq]
     rintro rfl
     exact Blk.ne_ (t:=e) hg hg' hne rfl
theorem own_blk_ne {w:World} {g n s base:Nat} {v:Value} {xs:List Value} {e t:TypeId} {cs:Array Value} (h:w.ownsRow base e s v n xs) (hg:Blk w g t cs) (hne:e≠t):v.ownBlock≠some g:=by
 rcases h.2 with⟨rfl,_⟩ | ⟨g',cap',cur',rfl,_,hg',_⟩
 · simp[Value.ownBlock]
 · simp only[Value.ownBlock,ne_eq,Option.some.injEq]
   rintro rfl
   exact Blk.ne_ (t:=e) hg' hg hne rfl
theorem own_mem {w:World} {base:Nat} {e:TypeId} {v:Value} {n s:Nat} {xs:List Value} (h:w.ownsRow base e s v n xs) {g:Nat} (hg:g∈v.ownBlock.toList):base≤g∧g<w.heap.size:=h.lt g (by simpa using hg)
theorem own_set {w:World} {base:Nat} {e:TypeId} {v:Value} {n s:Nat} {xs:List Value} (h:w.ownsRow base e s v n xs) {b o:Nat} (hb:b∉v.ownBlock.toList) (u:Value):(w.setCell ⟨b,o,none⟩ u).ownsRow base e s v n xs:=
 KA h ((Keep.refl [b] w).setCell (p:=⟨b,o,none⟩) (.inl (by simp)) u) (by intro g hg;simp only[List.mem_singleton];rintro rfl;exact hb (by simpa using hg))
section
variable {P:Program} {t e:TypeId} {z:Value} {bytes:Nat}
theorem Elem.run_copyOwn (E:Elem P t e z bytes) (w:World) (rt:TypeId) (base:Nat) (A:Option Addr) (n c:Nat) (xs:List Value) (hown:w.ownsRow base e 1 (.slice A n c) n xs) (off:Nat)
 (S:Option Addr) (m sc:Nat) (ys:List Value) (hr:Rd w S m ys) (h1:∀ u∈ys,u.oneCell'=true) (hm:off+m≤n) :
 ∃ w',(Builtin.copy_ #[t,t] rt #[.slice (cutA A off c) (n-off) (c-off),.slice S m sc]).run P w=.ok (.int .i64 (m:Nat)) w'∧w'.ownsRow base e 1 (.slice A n c) n (laid xs off ys)∧Keep (Value.slice A n c).ownBlock.toList w w':=by
 obtain⟨i,hi,hz,hsz,hby⟩:=E.info
 have hsz':(P.info? e).map (·.size)=some 1:=by rw[hi];simp[hsz]
 have hl:ys.length=m:=hr.1
 rcases Nat.eq_zero_or_pos m with h0 | h0
 · subst h0
   obtain rfl:ys=[]:=List.eq_nil_of_length_eq_zero hl
   exact⟨w,run_copy_none w t t rt e _ _ _ _ _ _ E.und hsz' (Nat.zero_min _),by rw[laid_nil];exact hown,Keep.refl _ _⟩
 · obtain⟨b,o',rfl,hb,hc⟩:=hr.2 h0
   rcases hown.2 with⟨he,h0'⟩ | ⟨g,cap,cur,he,hbg,hg,hn,hcm,hs,ht⟩
   · omega
   · injection he with hA _ hcap
     subst hA hcap
     rw[KAw g 0 off c (by omega),Nat.zero_add]
     have hs1:cur.size=c:=by simpa using hs
     have ht1:cur.toList.take n=xs:=by simpa using ht
     have hrun:=run_copy_row (P:=P) w t t rt e g off (n-off) (c-off) ⟨b,o',none⟩ m sc cur e ys E.und hsz' hg (by rw[hl];show m=min m (n-off);omega) (fun j v hv=>by rw[Addr.add_mid];exact hc j v hv) (by rw[hs1];omega) h1
     rw[hl] at hrun
     refine⟨_,hrun,Qh (cs:=(cur.toList.take off++ys++cur.toList.drop (off+m)).toArray) (setRow_heap w g _ _ e _ hg) hbg hn (by simpa [maxLen] using hcm) (by simp[hs1];omega) ?_,⟨rfl,rfl,rfl,by simp[World.setRow],fun k hk hn=>setRow_other w g k _ (by simpa [Value.ownBlock,eq_comm] using hn)⟩⟩
     unfold laid
     rw[← ht1,hl]
     have hcl:cur.toList.length=c:=by simpa using hs1
     apply List.ext_getElem?
     intro j
     simp only[List.getElem?_take,List.getElem?_append,List.length_append,List.length_take,hcl,hl,List.getElem?_drop]
     repeat' split
     all_goals first | rfl | omega | (congr 1;omega)
theorem Elem.wp1_copyOwn (E:Elem P t e z bytes) {w:World} {o:Oper} {a:Act} {K:Act→World→Prop} {Q:Exit→Act→World→Prop} (d s:Operand)
 (ho:o.op=.call { callee:=.builtin .copy,args:=#[d,s],argTypes:=#[t,t] })
 (base:Nat) (A:Option Addr) (n c:Nat) (xs:List Value) (off:Nat) (hd:a.eval d=.slice (cutA A off c) (n-off) (c-off)) (hown:w.ownsRow base e 1 (.slice A n c) n xs)
 (S:Option Addr) (m sc:Nat) (ys:List Value) (hx:a.eval s=.slice S m sc) (hr:Rd w S m ys) (h1:∀ u∈ys,u.oneCell'=true) (hm:off+m≤n)
 (h:∀ w',w'.ownsRow base e 1 (.slice A n c) n (laid xs off ys)→Keep (Value.slice A n c).ownBlock.toList w w'→K (a.put o.dst (.int .i64 (m:Nat))) w'):o.wp P a w K Q:=by
 obtain⟨w',hrun,h2,h3⟩:=E.run_copyOwn w o.type base A n c xs hown off S m sc ys hr h1 hm
 unfold Oper.wp execOp
 simp only[ho,resolve,invoke,builtin,Sem.run_bind,Sem.run_pure,Result.andThen_ok,List.map_toArray,List.map_cons,List.map_nil,hd,hx,hrun]
 exact h w' h2 h3
end
end
section
open Go.RowKit
def Apart (A B:List Nat):Prop:=∀ x∈A,x∉B
namespace Apart
variable {A B C A' B' F F' G:List Nat} {w w':World}
theorem symm (h:Apart A B):Apart B A:=fun x hx hy=>h x hy hx
theorem nil_right:Apart A []:=fun _ _ h=>by cases h
theorem left (h:Apart (A++B) C):Apart A C:=fun x hx=>h x (List.mem_append_left _ hx)
theorem right (h:Apart (A++B) C):Apart B C:=fun x hx=>h x (List.mem_append_right _ hx)
theorem sub (h:Apart A B) (hA:∀ x∈A',x∈A) (hB:∀ x∈B',x∈B):Apart A' B':=fun x hx hy=>h x (hA x hx) (hB x hy)
theorem cons {a:Nat} (h:a∉B) (k:Apart A B):Apart (a :: A) B:=fun x hx=>(List.mem_cons.1 hx).elim (fun e=>e ▸ h) (k x)
theorem grow (h:Apart F G) (hg:Grow w F F') (hG:∀ x∈G,x<w.heap.size):Apart F' G:=fun x hx hy=>by
 rcases hg x hx with h1 | h1
 · exact h x h1 hy
 · exact absurd (hG x hy) (by omega)
theorem grow_r (h:Apart G F) (hg:Grow w F F') (hG:∀ x∈G,x<w.heap.size):Apart G F':=(h.symm.grow hg hG).symm
theorem new {n:Nat} (h:∀ x∈A,x<n) (k:∀ x∈B,n≤x):Apart A B:=fun x hx hy=>absurd (h x hx) (by have:=k x hy;omega)
end Apart
theorem Grow.cons {w:World} {F F':List Nat} (a:Nat) (h:Grow w F F'):Grow w (a :: F) (a :: F'):=fun x hx=>by
 rcases List.mem_cons.1 hx with rfl | h1
 · exact .inl List.mem_cons_self
 · exact(h x h1).imp (List.mem_cons_of_mem _) id
theorem Grow.sub {w:World} {F F' G:List Nat} (h:Grow w F F') (hG:∀ x∈F,x∈G):Grow w G F':=fun x hx=>(h x hx).imp (hG x) id
theorem Grow.keep {w w0:World} {l F F':List Nat} (h:Grow w F F') (hk:Keep l w0 w):Grow w0 F F':=fun x hx=>(h x hx).imp id (fun h1=>Nat.le_trans hk.size h1)
theorem Grow.ge {w:World} {F F':List Nat} {b:Nat} (h:Grow w F F') (hF:∀ x∈F,b≤x) (hb:b≤w.heap.size):∀ x∈F',b≤x:=fun x hx=>(h x hx).elim (hF x) (by omega)
theorem Keep.sub {w w':World} {l m:List Nat} (h:Keep l w w') (hm:∀ x∈l,x∈m):Keep m w w':=h.mono (fun x hx=>.inl (hm x hx))
theorem Keep.apart {w w':World} {l F:List Nat} (h:Keep l w w') (ha:Apart F l):∀ g∈F,g∉l:=ha
def seg {α:Type} (s:Nat) (xs:List α) (i:Nat):List α:=(xs.drop (i*s)).take s
theorem length_seg {α:Type} (s:Nat) (xs:List α) (i:Nat) (h:(i+1)*s≤xs.length):(seg s xs i).length=s:=by
 rw[Nat.add_mul] at h
 simp[seg];omega
theorem seg_get {α:Type} (s:Nat) (xs:List α) (i j:Nat) (hj:j<s):(seg s xs i)[j]? = xs[i*s+j]? := by
 simp[seg,List.getElem?_take,hj,List.getElem?_drop]
theorem seg_laid_same {α:Type} (s:Nat) (xs ys:List α) (i:Nat) (h:(i+1)*s≤xs.length) (hy:ys.length=s):seg s (laid xs (i*s) ys) i=ys:=by
 rw[Nat.add_mul] at h
 unfold seg laid
 rw[List.append_assoc,List.drop_append_of_le_length (by simp;omega),List.drop_of_length_le (by simp;omega),List.nil_append,List.take_append_of_le_length (by omega),List.take_of_length_le (by omega)]
theorem seg_laid_other {α:Type} (s:Nat) (xs ys:List α) (i k:Nat) (h:(i+1)*s≤xs.length) (hy:ys.length=s) (hk:k≠i):seg s (laid xs (i*s) ys) k=seg s xs k:=by
 rw[Nat.add_mul] at h
 apply List.ext_getElem?
 intro j
 by_cases hj:j<s
 · rw[seg_get _ _ _ _ hj,seg_get _ _ _ _ hj]
   unfold laid
   rcases Nat.lt_or_gt_of_ne hk with hlt | hgt
   · have:(k+1)*s≤i*s:=Nat.mul_le_mul_right _ hlt
     rw[Nat.add_mul] at this
     rw[List.append_assoc,List.getElem?_append_left (by simp;omega),List.getElem?_take,if_pos (by omega)]
   · have:(i+1)*s≤k*s:=Nat.mul_le_mul_right _ hgt
     rw[Nat.add_mul] at this
     rw[List.getElem?_append_right (by simp;omega),List.getElem?_drop]
     congr 1
     simp
     omega
 · simp only[seg,List.getElem?_take,if_neg hj]
end
section
open Go.RowKit
variable {P:Program} {ops:Array Oper} {md:Region.Mode} {S:World→Prop} {Q:Exit→Act→World→Prop}
inductive RT where
 | nil
 | held (k:Nat) (t:RT)
 | loud (k:Nat) (t:RT)
 | two (i:Nat) (t:RT) (j:Nat) (u:RT)
 | three (i:Nat) (t:RT) (j:Nat) (u:RT) (k:Nat) (v:RT)
inductive RP where
 | nil
 | held (o:Oper) (t:RP)
 | loud (o:Oper) (t:RP)
 | two (o:Oper) (t:RP) (o':Oper) (u:RP)
 | three (o:Oper) (t:RP) (o':Oper) (u:RP) (o'':Oper) (v:RP)
def RT.size:RT→Nat
 | .nil=>0
 | .held _ t=>t.size+1
 | .loud _ t=>t.size+1
 | .two _ t _ _=>t.size+1
 | .three _ t _ _ _ _=>t.size+1
def RT.pick (l:List Oper):RT→RP
 | .nil=>.nil
 | .held k t=>match l[k]? with | some o=>.held o (t.pick l) | none=>.nil
 | .loud k t=>match l[k]? with | some o=>.loud o (t.pick l) | none=>.nil
 | .two i t j u=>match l[i]?,l[j]? with | some o,some o'=>.two o (t.pick l) o' (u.pick l) | _,_=>.nil
 | .three i t j u k v=>match l[i]?,l[j]?,l[k]? with | some o,some o',some o''=>.three o (t.pick l) o' (u.pick l) o'' (v.pick l) | _,_,_=>.nil
def wpR (P:Program) (ops:Array Oper) (Q:Exit→Act→World→Prop) (S:World→Prop) (L:Act→World→Prop):RP→Act→World→Prop
 | .nil,a,w=>L a w
 | .held o t,a,w=>∃ v,YieldsIf P ops S o v a∧wpR P ops Q S L t (a.put o.dst v) w
 | .loud o t,a,w=>wpO P ops Q o (fun a' w'=>S w'∧wpR P ops Q S L t a' w') a w
 | .two o t o' u,a,w=>wpO P ops Q o (fun a' w'=>S w'∧wpR P ops Q S L t a' w') a w∧wpO P ops Q o' (fun a' w'=>S w'∧wpR P ops Q S L u a' w') a w
 | .three o t o' u o'' v,a,w=>wpO P ops Q o (fun a' w'=>S w'∧wpR P ops Q S L t a' w') a w∧wpO P ops Q o' (fun a' w'=>S w'∧wpR P ops Q S L u a' w') a w∧wpO P ops Q o'' (fun a' w'=>S w'∧wpR P ops Q S L v a' w') a w
def Region.treeB (md:Region.Mode) (ops:Array Oper) (n g:Nat):RT→Array Bool→Bool
 | .nil,listed=>Region.seqB md ops g n listed
 | .held k t,listed=>decide (k<n) && (Region.ready md ops listed).contains k && Region.free md ops listed k && Region.treeB md ops n g t (listed.setIfInBounds k true)
 | .loud k t,listed=>decide (k<n) && decide (Region.ready md ops listed=[k]) && Region.treeB md ops n g t (listed.setIfInBounds k true)
 | .two i t j u,listed=>decide (i<n) && decide (j<n) && decide (Region.ready md ops listed=[i,j]) && decide (t.size=u.size) && Region.treeB md ops n g t (listed.setIfInBounds i true) && Region.treeB md ops n g u (listed.setIfInBounds j true)
 | .three i t j u k v,listed=>decide (i<n) && decide (j<n) && decide (k<n) && decide (Region.ready md ops listed=[i,j,k]) && decide (t.size=u.size) && decide (t.size=v.size) && Region.treeB md ops n g t (listed.setIfInBounds i true) && Region.treeB md ops n g u (listed.setIfInBounds j true) && Region.treeB md ops n g v (listed.setIfInBounds k true)
def Region.rtB (md:Region.Mode) (ops:Array Oper) (n:Nat) (p:RT):Bool:=
 Region.noSelect ops && decide (n<ops.size) && decide (p.size=n) && Region.sinkB md ops n && Region.chainB md ops n && Region.treeB md ops n (ops.size-n) p (Array.replicate ops.size false)
theorem wpOp_of_wpO {l:List Oper} {k:Nat} {o:Oper} {K:Act→World→Prop} {a:Act} {w:World} (ho:l[k]? = some o) (h:wpO P l.toArray Q o K a w):wpOp P l.toArray Q k K a w:=by
 have ho':l.toArray[k]? = some o:=by simpa using ho
 unfold wpOp
 simp only[ho']
 exact h
theorem wpHL_of_wpR {l:List Oper} {n g:Nat} {Lq:Act→World→Prop} (hsel:Region.noSelect l.toArray=true) (hs:Region.sinkB md l.toArray n=true) (hc:Region.chainB md l.toArray n=true) (hn:n<l.toArray.size)
 (hQ:∀ c a d v w,Q (.panic c) (a.put d v) w→Q (.panic c) a w) :
 ∀ (p:RT) (listed:Array Bool) (a:Act) (w:World),HeadInv md l.toArray n listed→Region.treeB md l.toArray n g p listed=true→S w →
   wpR P l.toArray Q S Lq (p.pick l) a w→JAy P md l.toArray Q S n (fun listed' a' w'=>Region.seqB md l.toArray g n listed'=true∧Lq a' w') p.size listed a w
 | .nil,listed,a,w,_,hB,_,h=>⟨by simpa [Region.treeB] using hB,by simpa [RT.pick,wpR] using h⟩
 | .held k p,listed,a,w,inv,hB,hS,h=>by
   simp only[Region.treeB,Bool.and_eq_true,decide_eq_true_eq] at hB
   obtain⟨⟨⟨hk,hr⟩,hf⟩,hB'⟩:=hB
   have hr':k∈Region.ready md l.toArray listed:=by simpa using hr
   obtain⟨_,o,ho,_⟩:=mem_ready.1 hr'
   have ho':l[k]? = some o:=by simpa using ho
   have hp:(RT.held k p).pick l=.held o (p.pick l):=by simp[RT.pick,ho']
   rw[hp] at h
   obtain⟨v,hy,hK⟩:=h
   exact Je ho (Region.noSelect_spec hsel) hs hc hn hk (fun listed' a' w' hL=>seqB_ready hL.1) (fun c a w=>hQ c a _ _ w) p.size listed a w inv (Region.free_spec ho hf) hr' hy hS
    (wpHL_of_wpR hsel hs hc hn hQ p _ _ _ (inv.set hr' hk) hB' hS hK)
 | .loud k p,listed,a,w,inv,hB,hS,h=>by
   simp only[Region.treeB,Bool.and_eq_true,decide_eq_true_eq] at hB
   obtain⟨⟨hk,hr⟩,hB'⟩:=hB
   have hr':k∈Region.ready md l.toArray listed:=by rw[hr];simp
   obtain⟨_,o,ho,_⟩:=mem_ready.1 hr'
   have ho':l[k]? = some o:=by simpa using ho
   have hp:(RT.loud k p).pick l=.loud o (p.pick l):=by simp[RT.pick,ho']
   rw[hp] at h
   refine⟨fun h0=>(by rw[h0] at hr';cases hr'),fun i hi=>?_⟩
   rw[hr] at hi
   obtain rfl:i=k:=by simpa using hi
   exact⟨hk,wpOp_mono (fun a' w' h'=>⟨h'.1,wpHL_of_wpR hsel hs hc hn hQ p _ _ _ (inv.set hr' hk) hB' h'.1 h'.2⟩) (wpOp_of_wpO ho' h)⟩
 | .two i p j u,listed,a,w,inv,hB,hS,h=>by
   simp only[Region.treeB,Bool.and_eq_true,decide_eq_true_eq] at hB
   obtain⟨⟨⟨⟨⟨hi,hj⟩,hr⟩,hsz⟩,hB1⟩,hB2⟩:=hB
   have hri:i∈Region.ready md l.toArray listed:=by rw[hr];simp
   have hrj:j∈Region.ready md l.toArray listed:=by rw[hr];simp
   obtain⟨_,o,ho,_⟩:=mem_ready.1 hri
   obtain⟨_,o',ho',_⟩:=mem_ready.1 hrj
   have hol:l[i]? = some o:=by simpa using ho
   have hol':l[j]? = some o':=by simpa using ho'
   have hp:(RT.two i p j u).pick l=.two o (p.pick l) o' (u.pick l):=by simp[RT.pick,hol,hol']
   rw[hp] at h
   obtain⟨h1,h2⟩:=h
   refine⟨fun h0=>(by rw[h0] at hri;cases hri),fun k hk=>?_⟩
   rw[hr] at hk
   have hk':k=i∨k=j:=by simpa using hk
   rcases hk' with rfl | rfl
   · exact⟨hi,wpOp_mono (fun a' w' h'=>⟨h'.1,wpHL_of_wpR hsel hs hc hn hQ p _ _ _ (inv.set hri hi) hB1 h'.1 h'.2⟩) (wpOp_of_wpO hol h1)⟩
   · refine⟨hj,wpOp_mono (fun a' w' h'=>⟨h'.1,?_⟩) (wpOp_of_wpO hol' h2)⟩
     have:=wpHL_of_wpR hsel hs hc hn hQ u _ _ _ (inv.set hrj hj) hB2 h'.1 h'.2
     rwa [← hsz] at this
 | .three i p j u k v,listed,a,w,inv,hB,hS,h=>by
   simp only[Region.treeB,Bool.and_eq_true,decide_eq_true_eq] at hB
   obtain⟨⟨⟨⟨⟨⟨⟨⟨hi,hj⟩,hk⟩,hr⟩,hsz⟩,hsz2⟩,hB1⟩,hB2⟩,hB3⟩:=hB
   have hri:i∈Region.ready md l.toArray listed:=by rw[hr];simp
   have hrj:j∈Region.ready md l.toArray listed:=by rw[hr];simp
   have hrk:k∈Region.ready md l.toArray listed:=by rw[hr];simp
   obtain⟨_,o,ho,_⟩:=mem_ready.1 hri
   obtain⟨_,o',ho',_⟩:=mem_ready.1 hrj
   obtain⟨_,o'',ho'',_⟩:=mem_ready.1 hrk
   have hol:l[i]? = some o:=by simpa using ho
   have hol':l[j]? = some o':=by simpa using ho'
   have hol'':l[k]? = some o'':=by simpa using ho''
   have hp:(RT.three i p j u k v).pick l=.three o (p.pick l) o' (u.pick l) o'' (v.pick l):=by simp[RT.pick,hol,hol',hol'']
   rw[hp] at h
   obtain⟨h1,h2,h3⟩:=h
   refine⟨fun h0=>(by rw[h0] at hri;cases hri),fun q hq=>?_⟩
   rw[hr] at hq
   have hq':q=i∨q=j∨q=k:=by simpa using hq
   rcases hq' with rfl | rfl | rfl
   · exact⟨hi,wpOp_mono (fun a' w' h'=>⟨h'.1,wpHL_of_wpR hsel hs hc hn hQ p _ _ _ (inv.set hri hi) hB1 h'.1 h'.2⟩) (wpOp_of_wpO hol h1)⟩
   · refine⟨hj,wpOp_mono (fun a' w' h'=>⟨h'.1,?_⟩) (wpOp_of_wpO hol' h2)⟩
     have:=wpHL_of_wpR hsel hs hc hn hQ u _ _ _ (inv.set hrj hj) hB2 h'.1 h'.2
     rwa [← hsz] at this
   · refine⟨hk,wpOp_mono (fun a' w' h'=>⟨h'.1,?_⟩) (wpOp_of_wpO hol'' h3)⟩
     have:=wpHL_of_wpR hsel hs hc hn hQ v _ _ _ (inv.set hrk hk) hB3 h'.1 h'.2
     rwa [← hsz2] at this
theorem wp_region_rt {id:Nat} {a:Act} {w:World} {l:List Oper} (S:World→Prop) (n:Nat) (p:RT) (hm:P.follows .mixedOrders=true) (hB:Region.rtB .any l.toArray n p=true)
 (hQ:∀ c a d v w,Q (.panic c) (a.put d v) w→Q (.panic c) a w) (hS:S w.drew)
 (h:wpR P l.toArray Q S (wpList P l.toArray Q (l.drop n)) (p.pick l) a w.drew):(Code.region id l.toArray true).wp P Q a w:=by
 simp only[Region.rtB,Bool.and_eq_true,decide_eq_true_eq] at hB
 obtain⟨⟨⟨⟨⟨hsel,hn⟩,hpl⟩,hs⟩,hc⟩,hord⟩:=hB
 have hn':n<l.length:=by simpa using hn
 have inv0:HeadInv .any l.toArray n (Array.replicate l.toArray.size false):=
  ⟨by simp,fun j oj _ hl=>(by rw[getD_replicate_false] at hl;cases hl),fun t _ ht=>getD_in (by simpa using ht) (getD_replicate_false _ _)⟩
 have H:=wpHL_of_wpR hsel hs hc hn hQ p _ a w.drew inv0 hord hS h
 refine wp_region_any hm ?_
 have hdl:(l.drop n).length=l.toArray.size-n:=by simp
 have:=JM (Q:=Q) (g:=l.toArray.size-n) (fun listed a' w' hL=>by
  have:=wpAny_of_seq (md:=.any) (Q':=Q) (l.drop n) n listed a' w' (fun j=>by simp[List.getElem?_drop]) (by rw[hdl];exact hL.1) hL.2
  rwa [hdl] at this) _ _ _ _ H
 rw[hpl,show n+(l.toArray.size-n)=l.toArray.size by omega] at this
 exact this
section moves
variable {L:Act→World→Prop} {o o':Oper} {rest rest':RP} {a:Act} {w:World}
theorem wpR_nil (h:L a w):wpR P ops Q S L .nil a w:=h
theorem wpR_held (v:Value) (hw:Region.wanted o (yielded ops a.tmps)=true) (hy:∀ w,S w→(execOp a.eval o).run P w=.ok (.value v) w) (h:wpR P ops Q S L rest (a.put o.dst v) w) :
 wpR P ops Q S L (.held o rest) a w:=⟨v,.inl ⟨hw,hy⟩,h⟩
theorem wpR_loud (hw:Region.wanted o (yielded ops a.tmps)=true) (h:∀ K:Act→World→Prop,(∀ a' w',S w'→wpR P ops Q S L rest a' w'→K a' w')→o.wp P a w K Q) :
 wpR P ops Q S L (.loud o rest) a w:=by
 show wpO P ops Q o _ a w
 unfold wpO
 rw[if_pos hw]
 exact .inl (h _ fun a' w' h1 h2=>⟨h1,h2⟩)
theorem wpR_three {o'':Oper} {rest'':RP} (h1:wpR P ops Q S L (.loud o rest) a w) (h2:wpR P ops Q S L (.loud o' rest') a w) (h3:wpR P ops Q S L (.loud o'' rest'') a w):wpR P ops Q S L (.three o rest o' rest' o'' rest'') a w:=⟨h1,h2,h3⟩
theorem wpR_two (h1:wpR P ops Q S L (.loud o rest) a w) (h2:wpR P ops Q S L (.loud o' rest') a w):wpR P ops Q S L (.two o rest o' rest') a w:=⟨h1,h2⟩
end moves
theorem ZR {P:Program} {Q:Exit→Act→World→Prop} {id:Nat} {a:Act} {w:World} {l:List Oper} (S:World→Prop) (n:Nat) (p:RT) (hS:S w.drew)
 (h:wpR P l.toArray Q S (wpList P l.toArray Q (l.drop n)) (p.pick l) a w.drew) (hm:P.follows .mixedOrders=true:=by kernel_rfl) (hB:Region.rtB .any l.toArray n p=true:=by kernel_rfl)
 (hQ:∀ c a d v w,Q (.panic c) (a.put d v) w→Q (.panic c) a w:=by exact fun _ _ d _ _ h=>by cases d <;> exact h):(Code.region id l.toArray true).wp P Q a w:=wp_region_rt S n p hm hB hQ hS h
theorem ZK {P:Program} {ops:Array Oper} {S:World→Prop} {Q:Exit→Act→World→Prop} {L:Act→World→Prop} {o:Oper} {rest:RP} {a:Act} {w:World} {v:Value} (h:wpR P ops Q S L rest (a.put o.dst v) w) (hw:Region.wanted o (yielded ops a.tmps)=true:=by rfl)
 (hy:∀ w,S w→(execOp a.eval o).run P w=.ok (.value v) w:=by(intro W hW;go_simp;try with_reducible rfl)):wpR P ops Q S L (.held o rest) a w:=wpR_held v hw hy h
end
section
open Go.RowKit
def KeepN (N:List Nat) (w w':World):Prop:=∃ l,Keep l w w'∧∀ b∈N,b∉l
theorem Blk.keepN {w w':World} {g:Nat} {t:TypeId} {cs:Array Value} {N:List Nat} (h:Blk w g t cs) (hk:KeepN N w w') (hg:g∈N):Blk w' g t cs:=by
 obtain⟨l,hk,hl⟩:=hk
 exact h.keep hk (hl g hg)
theorem rd_keepN {w w':World} {A:Option Addr} {n:Nat} {xs:List Value} {N:List Nat} (h:Rd w A n xs) (hk:KeepN N w w') (hg:∀ a,A=some a→a.block∈N):Rd w' A n xs:=by
 obtain⟨l,hk,hl⟩:=hk
 exact h.keepIf hk (fun a ha=>hl _ (hg a ha))
theorem KeepN.trans {N:List Nat} {w w1 w2:World} (h:KeepN N w w1) (hk:KeepN N w1 w2):KeepN N w w2:=by
 obtain⟨l,h1,h2⟩:=h
 obtain⟨m,k1,k2⟩:=hk
 refine⟨l++m,(h1.mono (fun x hx=>.inl (List.mem_append_left m hx))).trans k1 (fun x hx=>.inl (List.mem_append_right l hx)),fun b hb hm=>?_⟩
 rcases List.mem_append.1 hm with hm | hm
 · exact h2 b hb hm
 · exact k2 b hb hm
theorem KeepN.of0 {N:List Nat} {w w':World} (h:Keep [] w w'):KeepN N w w':=⟨[],h,fun _ _ h=>by cases h⟩
theorem KeepN.sub {N M:List Nat} {w w':World} (h:KeepN N w w') (hs:∀ b∈M,b∈N):KeepN M w w':=by
 obtain⟨l,h1,h2⟩:=h
 exact⟨l,h1,fun b hb=>h2 b (hs b hb)⟩
end
section
open Go.RowKit
variable {P:Program} {ops:Array Oper} {md:Region.Mode} {S:World→Prop} {Q:Exit→Act→World→Prop}
inductive RQ where
 | nil
 | held (k:Nat) (t:RQ)
 | loud (k:Nat) (t:RQ)
 | two (i:Nat) (t:RQ) (j:Nat) (u:RQ)
 | three (i:Nat) (t:RQ) (j:Nat) (u:RQ) (k:Nat) (v:RQ)
 | four (i:Nat) (t:RQ) (j:Nat) (u:RQ) (k:Nat) (v:RQ) (m:Nat) (x:RQ)
inductive RO where
 | nil
 | held (o:Oper) (t:RO)
 | loud (o:Oper) (t:RO)
 | two (o:Oper) (t:RO) (o':Oper) (u:RO)
 | three (o:Oper) (t:RO) (o':Oper) (u:RO) (o'':Oper) (v:RO)
 | four (o:Oper) (t:RO) (o':Oper) (u:RO) (o'':Oper) (v:RO) (o3:Oper) (x:RO)
def RQ.size:RQ→Nat
 | .nil=>0
 | .held _ t=>t.size+1
 | .loud _ t=>t.size+1
 | .two _ t _ _=>t.size+1
 | .three _ t _ _ _ _=>t.size+1
 | .four _ t _ _ _ _ _ _=>t.size+1
def RQ.pick (l:List Oper):RQ→RO
 | .nil=>.nil
 | .held k t=>match l[k]? with | some o=>.held o (t.pick l) | none=>.nil
 | .loud k t=>match l[k]? with | some o=>.loud o (t.pick l) | none=>.nil
 | .two i t j u=>match l[i]?,l[j]? with | some o,some o'=>.two o (t.pick l) o' (u.pick l) | _,_=>.nil
 | .three i t j u k v=>match l[i]?,l[j]?,l[k]? with | some o,some o',some o''=>.three o (t.pick l) o' (u.pick l) o'' (v.pick l) | _,_,_=>.nil
 | .four i t j u k v m x=>match l[i]?,l[j]?,l[k]?,l[m]? with | some o,some o',some o'',some o3=>.four o (t.pick l) o' (u.pick l) o'' (v.pick l) o3 (x.pick l) | _,_,_,_=>.nil
def wpQ (P:Program) (ops:Array Oper) (Q:Exit→Act→World→Prop) (S:World→Prop) (L:Act→World→Prop):RO→Act→World→Prop
 | .nil,a,w=>L a w
 | .held o t,a,w=>∃ v,YieldsIf P ops S o v a∧wpQ P ops Q S L t (a.put o.dst v) w
 | .loud o t,a,w=>wpO P ops Q o (fun a' w'=>S w'∧wpQ P ops Q S L t a' w') a w
 | .two o t o' u,a,w=>wpO P ops Q o (fun a' w'=>S w'∧wpQ P ops Q S L t a' w') a w∧wpO P ops Q o' (fun a' w'=>S w'∧wpQ P ops Q S L u a' w') a w
 | .three o t o' u o'' v,a,w=>wpO P ops Q o (fun a' w'=>S w'∧wpQ P ops Q S L t a' w') a w∧wpO P ops Q o' (fun a' w'=>S w'∧wpQ P ops Q S L u a' w') a w∧wpO P ops Q o'' (fun a' w'=>S w'∧wpQ P ops Q S L v a' w') a w
 | .four o t o' u o'' v o3 x,a,w=>wpO P ops Q o (fun a' w'=>S w'∧wpQ P ops Q S L t a' w') a w∧wpO P ops Q o' (fun a' w'=>S w'∧wpQ P ops Q S L u a' w') a w∧wpO P ops Q o'' (fun a' w'=>S w'∧wpQ P ops Q S L v a' w') a w∧wpO P ops Q o3 (fun a' w'=>S w'∧wpQ P ops Q S L x a' w') a w
def Region.treeQ (md:Region.Mode) (ops:Array Oper) (n g:Nat):RQ→Array Bool→Bool
 | .nil,listed=>Region.seqB md ops g n listed
 | .held k t,listed=>decide (k<n) && (Region.ready md ops listed).contains k && Region.free md ops listed k && Region.treeQ md ops n g t (listed.setIfInBounds k true)
 | .loud k t,listed=>decide (k<n) && decide (Region.ready md ops listed=[k]) && Region.treeQ md ops n g t (listed.setIfInBounds k true)
 | .two i t j u,listed=>decide (i<n) && decide (j<n) && decide (Region.ready md ops listed=[i,j]) && decide (t.size=u.size) && Region.treeQ md ops n g t (listed.setIfInBounds i true) && Region.treeQ md ops n g u (listed.setIfInBounds j true)
 | .three i t j u k v,listed=>decide (i<n) && decide (j<n) && decide (k<n) && decide (Region.ready md ops listed=[i,j,k]) && decide (t.size=u.size) && decide (t.size=v.size) && Region.treeQ md ops n g t (listed.setIfInBounds i true) && Region.treeQ md ops n g u (listed.setIfInBounds j true) && Region.treeQ md ops n g v (listed.setIfInBounds k true)
 | .four i t j u k v m x,listed=>decide (i<n) && decide (j<n) && decide (k<n) && decide (m<n) && decide (Region.ready md ops listed=[i,j,k,m]) && decide (t.size=u.size) && decide (t.size=v.size) && decide (t.size=x.size) && Region.treeQ md ops n g t (listed.setIfInBounds i true) && Region.treeQ md ops n g u (listed.setIfInBounds j true) && Region.treeQ md ops n g v (listed.setIfInBounds k true) && Region.treeQ md ops n g x (listed.setIfInBounds m true)
def Region.rqB (md:Region.Mode) (ops:Array Oper) (n:Nat) (p:RQ):Bool:=
 Region.noSelect ops && decide (n<ops.size) && decide (p.size=n) && Region.sinkB md ops n && Region.chainB md ops n && Region.treeQ md ops n (ops.size-n) p (Array.replicate ops.size false)
theorem wpOp_of_wpO4 {l:List Oper} {k:Nat} {o:Oper} {K:Act→World→Prop} {a:Act} {w:World} (ho:l[k]? = some o) (h:wpO P l.toArray Q o K a w):wpOp P l.toArray Q k K a w:=by
 have ho':l.toArray[k]? = some o:=by simpa using ho
 unfold wpOp
 simp only[ho']
 exact h
theorem wpHL_of_wpQ {l:List Oper} {n g:Nat} {Lq:Act→World→Prop} (hsel:Region.noSelect l.toArray=true) (hs:Region.sinkB md l.toArray n=true) (hc:Region.chainB md l.toArray n=true) (hn:n<l.toArray.size)
 (hQ:∀ c a d v w,Q (.panic c) (a.put d v) w→Q (.panic c) a w) :
 ∀ (p:RQ) (listed:Array Bool) (a:Act) (w:World),HeadInv md l.toArray n listed→Region.treeQ md l.toArray n g p listed=true→S w →
   wpQ P l.toArray Q S Lq (p.pick l) a w→JAy P md l.toArray Q S n (fun listed' a' w'=>Region.seqB md l.toArray g n listed'=true∧Lq a' w') p.size listed a w
 | .nil,listed,a,w,_,hB,_,h=>⟨by simpa [Region.treeQ] using hB,by simpa [RQ.pick,wpQ] using h⟩
 | .held k p,listed,a,w,inv,hB,hS,h=>by
   simp only[Region.treeQ,Bool.and_eq_true,decide_eq_true_eq] at hB
   obtain⟨⟨⟨hk,hr⟩,hf⟩,hB'⟩:=hB
   have hr':k∈Region.ready md l.toArray listed:=by simpa using hr
   obtain⟨_,o,ho,_⟩:=mem_ready.1 hr'
   have ho':l[k]? = some o:=by simpa using ho
   have hp:(RQ.held k p).pick l=.held o (p.pick l):=by simp[RQ.pick,ho']
   rw[hp] at h
   obtain⟨v,hy,hK⟩:=h
   exact Je ho (Region.noSelect_spec hsel) hs hc hn hk (fun listed' a' w' hL=>seqB_ready hL.1) (fun c a w=>hQ c a _ _ w) p.size listed a w inv (Region.free_spec ho hf) hr' hy hS
    (wpHL_of_wpQ hsel hs hc hn hQ p _ _ _ (inv.set hr' hk) hB' hS hK)
 | .loud k p,listed,a,w,inv,hB,hS,h=>by
   simp only[Region.treeQ,Bool.and_eq_true,decide_eq_true_eq] at hB
   obtain⟨⟨hk,hr⟩,hB'⟩:=hB
   have hr':k∈Region.ready md l.toArray listed:=by rw[hr];simp
   obtain⟨_,o,ho,_⟩:=mem_ready.1 hr'
   have ho':l[k]? = some o:=by simpa using ho
   have hp:(RQ.loud k p).pick l=.loud o (p.pick l):=by simp[RQ.pick,ho']
   rw[hp] at h
   refine⟨fun h0=>(by rw[h0] at hr';cases hr'),fun i hi=>?_⟩
   rw[hr] at hi
   obtain rfl:i=k:=by simpa using hi
   exact⟨hk,wpOp_mono (fun a' w' h'=>⟨h'.1,wpHL_of_wpQ hsel hs hc hn hQ p _ _ _ (inv.set hr' hk) hB' h'.1 h'.2⟩) (wpOp_of_wpO4 ho' h)⟩
 | .two i p j u,listed,a,w,inv,hB,hS,h=>by
   simp only[Region.treeQ,Bool.and_eq_true,decide_eq_true_eq] at hB
   obtain⟨⟨⟨⟨⟨hi,hj⟩,hr⟩,hsz⟩,hB1⟩,hB2⟩:=hB
   have hri:i∈Region.ready md l.toArray listed:=by rw[hr];simp
   have hrj:j∈Region.ready md l.toArray listed:=by rw[hr];simp
   obtain⟨_,o,ho,_⟩:=mem_ready.1 hri
   obtain⟨_,o',ho',_⟩:=mem_ready.1 hrj
   have hol:l[i]? = some o:=by simpa using ho
   have hol':l[j]? = some o':=by simpa using ho'
   have hp:(RQ.two i p j u).pick l=.two o (p.pick l) o' (u.pick l):=by simp[RQ.pick,hol,hol']
   rw[hp] at h
   obtain⟨h1,h2⟩:=h
   refine⟨fun h0=>(by rw[h0] at hri;cases hri),fun k hk=>?_⟩
   rw[hr] at hk
   have hk':k=i∨k=j:=by simpa using hk
   rcases hk' with rfl | rfl
   · exact⟨hi,wpOp_mono (fun a' w' h'=>⟨h'.1,wpHL_of_wpQ hsel hs hc hn hQ p _ _ _ (inv.set hri hi) hB1 h'.1 h'.2⟩) (wpOp_of_wpO4 hol h1)⟩
   · refine⟨hj,wpOp_mono (fun a' w' h'=>⟨h'.1,?_⟩) (wpOp_of_wpO4 hol' h2)⟩
     have:=wpHL_of_wpQ hsel hs hc hn hQ u _ _ _ (inv.set hrj hj) hB2 h'.1 h'.2
     rwa [← hsz] at this
 | .three i p j u k v,listed,a,w,inv,hB,hS,h=>by
   simp only[Region.treeQ,Bool.and_eq_true,decide_eq_true_eq] at hB
   obtain⟨⟨⟨⟨⟨⟨⟨⟨hi,hj⟩,hk⟩,hr⟩,hsz⟩,hsz2⟩,hB1⟩,hB2⟩,hB3⟩:=hB
   have hri:i∈Region.ready md l.toArray listed:=by rw[hr];simp
   have hrj:j∈Region.ready md l.toArray listed:=by rw[hr];simp
   have hrk:k∈Region.ready md l.toArray listed:=by rw[hr];simp
   obtain⟨_,o,ho,_⟩:=mem_ready.1 hri
   obtain⟨_,o',ho',_⟩:=mem_ready.1 hrj
   obtain⟨_,o'',ho'',_⟩:=mem_ready.1 hrk
   have hol:l[i]? = some o:=by simpa using ho
   have hol':l[j]? = some o':=by simpa using ho'
   have hol'':l[k]? = some o'':=by simpa using ho''
   have hp:(RQ.three i p j u k v).pick l=.three o (p.pick l) o' (u.pick l) o'' (v.pick l):=by simp[RQ.pick,hol,hol',hol'']
   rw[hp] at h
   obtain⟨h1,h2,h3⟩:=h
   refine⟨fun h0=>(by rw[h0] at hri;cases hri),fun q hq=>?_⟩
   rw[hr] at hq
   have hq':q=i∨q=j∨q=k:=by simpa using hq
   rcases hq' with rfl | rfl | rfl
   · exact⟨hi,wpOp_mono (fun a' w' h'=>⟨h'.1,wpHL_of_wpQ hsel hs hc hn hQ p _ _ _ (inv.set hri hi) hB1 h'.1 h'.2⟩) (wpOp_of_wpO4 hol h1)⟩
   · refine⟨hj,wpOp_mono (fun a' w' h'=>⟨h'.1,?_⟩) (wpOp_of_wpO4 hol' h2)⟩
     have:=wpHL_of_wpQ hsel hs hc hn hQ u _ _ _ (inv.set hrj hj) hB2 h'.1 h'.2
     rwa [← hsz] at this
   · refine⟨hk,wpOp_mono (fun a' w' h'=>⟨h'.1,?_⟩) (wpOp_of_wpO4 hol'' h3)⟩
     have:=wpHL_of_wpQ hsel hs hc hn hQ v _ _ _ (inv.set hrk hk) hB3 h'.1 h'.2
     rwa [← hsz2] at this
 | .four i p j u k v m x,listed,a,w,inv,hB,hS,h=>by
   simp only[Region.treeQ,Bool.and_eq_true,decide_eq_true_eq] at hB
   obtain⟨⟨⟨⟨⟨⟨⟨⟨⟨⟨⟨hi,hj⟩,hk⟩,hm⟩,hr⟩,hsz⟩,hsz2⟩,hsz3⟩,hB1⟩,hB2⟩,hB3⟩,hB4⟩:=hB
   have hri:i∈Region.ready md l.toArray listed:=by rw[hr];simp
   have hrj:j∈Region.ready md l.toArray listed:=by rw[hr];simp
   have hrk:k∈Region.ready md l.toArray listed:=by rw[hr];simp
   have hrm:m∈Region.ready md l.toArray listed:=by rw[hr];simp
   obtain⟨_,o,ho,_⟩:=mem_ready.1 hri
   obtain⟨_,o',ho',_⟩:=mem_ready.1 hrj
   obtain⟨_,o'',ho'',_⟩:=mem_ready.1 hrk
   obtain⟨_,o3,ho3,_⟩:=mem_ready.1 hrm
   have hol:l[i]? = some o:=by simpa using ho
   have hol':l[j]? = some o':=by simpa using ho'
   have hol'':l[k]? = some o'':=by simpa using ho''
   have hol3:l[m]? = some o3:=by simpa using ho3
   have hp:(RQ.four i p j u k v m x).pick l=.four o (p.pick l) o' (u.pick l) o'' (v.pick l) o3 (x.pick l):=by simp[RQ.pick,hol,hol',hol'',hol3]
   rw[hp] at h
   obtain⟨h1,h2,h3,h4⟩:=h
   refine⟨fun h0=>(by rw[h0] at hri;cases hri),fun q hq=>?_⟩
   rw[hr] at hq
   have hq':q=i∨q=j∨q=k∨q=m:=by simpa using hq
   rcases hq' with rfl | rfl | rfl | rfl
   · exact⟨hi,wpOp_mono (fun a' w' h'=>⟨h'.1,wpHL_of_wpQ hsel hs hc hn hQ p _ _ _ (inv.set hri hi) hB1 h'.1 h'.2⟩) (wpOp_of_wpO4 hol h1)⟩
   · refine⟨hj,wpOp_mono (fun a' w' h'=>⟨h'.1,?_⟩) (wpOp_of_wpO4 hol' h2)⟩
     have:=wpHL_of_wpQ hsel hs hc hn hQ u _ _ _ (inv.set hrj hj) hB2 h'.1 h'.2
     rwa [← hsz] at this
   · refine⟨hk,wpOp_mono (fun a' w' h'=>⟨h'.1,?_⟩) (wpOp_of_wpO4 hol'' h3)⟩
     have:=wpHL_of_wpQ hsel hs hc hn hQ v _ _ _ (inv.set hrk hk) hB3 h'.1 h'.2
     rwa [← hsz2] at this
   · refine⟨hm,wpOp_mono (fun a' w' h'=>⟨h'.1,?_⟩) (wpOp_of_wpO4 hol3 h4)⟩
     have:=wpHL_of_wpQ hsel hs hc hn hQ x _ _ _ (inv.set hrm hm) hB4 h'.1 h'.2
     rwa [← hsz3] at this
theorem wp_region_rq {id:Nat} {a:Act} {w:World} {l:List Oper} (S:World→Prop) (n:Nat) (p:RQ) (hm:P.follows .mixedOrders=true) (hB:Region.rqB .any l.toArray n p=true)
 (hQ:∀ c a d v w,Q (.panic c) (a.put d v) w→Q (.panic c) a w) (hS:S w.drew)
 (h:wpQ P l.toArray Q S (wpList P l.toArray Q (l.drop n)) (p.pick l) a w.drew):(Code.region id l.toArray true).wp P Q a w:=by
 simp only[Region.rqB,Bool.and_eq_true,decide_eq_true_eq] at hB
 obtain⟨⟨⟨⟨⟨hsel,hn⟩,hpl⟩,hs⟩,hc⟩,hord⟩:=hB
 have hn':n<l.length:=by simpa using hn
 have inv0:HeadInv .any l.toArray n (Array.replicate l.toArray.size false):=
  ⟨by simp,fun j oj _ hl=>(by rw[getD_replicate_false] at hl;cases hl),fun t _ ht=>getD_in (by simpa using ht) (getD_replicate_false _ _)⟩
 have H:=wpHL_of_wpQ hsel hs hc hn hQ p _ a w.drew inv0 hord hS h
 refine wp_region_any hm ?_
 have hdl:(l.drop n).length=l.toArray.size-n:=by simp
 have:=JM (Q:=Q) (g:=l.toArray.size-n) (fun listed a' w' hL=>by
  have:=wpAny_of_seq (md:=.any) (Q':=Q) (l.drop n) n listed a' w' (fun j=>by simp[List.getElem?_drop]) (by rw[hdl];exact hL.1) hL.2
  rwa [hdl] at this) _ _ _ _ H
 rw[hpl,show n+(l.toArray.size-n)=l.toArray.size by omega] at this
 exact this
section moves
variable {L:Act→World→Prop} {o o':Oper} {rest rest':RO} {a:Act} {w:World}
theorem wpQ_nil (h:L a w):wpQ P ops Q S L .nil a w:=h
theorem wpQ_held (v:Value) (hw:Region.wanted o (yielded ops a.tmps)=true) (hy:∀ w,S w→(execOp a.eval o).run P w=.ok (.value v) w) (h:wpQ P ops Q S L rest (a.put o.dst v) w) :
 wpQ P ops Q S L (.held o rest) a w:=⟨v,.inl ⟨hw,hy⟩,h⟩
theorem wpQ_loud (hw:Region.wanted o (yielded ops a.tmps)=true) (h:∀ K:Act→World→Prop,(∀ a' w',S w'→wpQ P ops Q S L rest a' w'→K a' w')→o.wp P a w K Q) :
 wpQ P ops Q S L (.loud o rest) a w:=by
 show wpO P ops Q o _ a w
 unfold wpO
 rw[if_pos hw]
 exact .inl (h _ fun a' w' h1 h2=>⟨h1,h2⟩)
theorem wpQ_three {o'':Oper} {rest'':RO} (h1:wpQ P ops Q S L (.loud o rest) a w) (h2:wpQ P ops Q S L (.loud o' rest') a w) (h3:wpQ P ops Q S L (.loud o'' rest'') a w):wpQ P ops Q S L (.three o rest o' rest' o'' rest'') a w:=⟨h1,h2,h3⟩
theorem wpQ_four {o'' o3:Oper} {rest'' rest3:RO} (h1:wpQ P ops Q S L (.loud o rest) a w) (h2:wpQ P ops Q S L (.loud o' rest') a w) (h3:wpQ P ops Q S L (.loud o'' rest'') a w) (h4:wpQ P ops Q S L (.loud o3 rest3) a w):wpQ P ops Q S L (.four o rest o' rest' o'' rest'' o3 rest3) a w:=⟨h1,h2,h3,h4⟩
theorem wpQ_two (h1:wpQ P ops Q S L (.loud o rest) a w) (h2:wpQ P ops Q S L (.loud o' rest') a w):wpQ P ops Q S L (.two o rest o' rest') a w:=⟨h1,h2⟩
end moves
end
end Go.Proofs.YthgphmfipnjllaaGreat
