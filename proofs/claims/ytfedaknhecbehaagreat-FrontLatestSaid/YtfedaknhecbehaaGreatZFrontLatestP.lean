/-
  FrontLatest returns true at every input, and what came in reads as it did: promoted, each block reads what was written, or trimmed, last, whatever is cleaned and checkpointed between; and old frames, of whatever View, turn nothing. No condition.
-/
import Derived.Test.YtfedaknhecbehaaGreatL53
import Derived.Test.YtfedaknhecbehaaGreatL52
namespace Go.Proofs.YtfedaknhecbehaaGreat.frontLatest
set_option linter.all false
set_option maxRecDepth 100000
open Go.ChangeShapes Go.WideShapes Go.ChangeAt Go.RowKit Go.Deep

theorem own:ownKnob Tryz.prog.godebug=none:=by kernel_rfl

theorem JBo {os:Os} (y:os.Started) (H:Type) (enc:TypeId×Value->H) :
 ReturnsInHanded {} Tryz.checked os 9 .any (Rows.frontLatestSpec.pre6 enc Tryz.prog Tryz.f9 Rows.frontLatestRow.domain false) (Rows.frontLatestSpec.post enc Tryz.prog Tryz.f9 false true false false):=by
 refine returnsInHanded_of_change (C:=Tryz.checked) own y (by kernel_rfl) D9
  (ChangeSpec.witness6 (enc:=enc) (C:=Tryz.checked) false ⟨#[],#[zz,zn,zn,zz],[]⟩ 8 (by kernel_rfl) (by kernel_rfl) (by kernel_rfl) (by kernel_rfl)) ?_
 intro W base b ds gs a1 f g a2 _;have a:∀ (j:Nat) t v,Tryz.f9.params[j]? = some t->b[j]? = some v->Value.okWide Tryz.prog W .any base t v:=f;have z:=g;obtain⟨p,q,h,A,rfl,a3,a4⟩:=g;have i:DataW.TrodAll enc Tryz.prog W 0 (fun _=>true) true Tryz.f9.params.toList b.toList ds p:=h;rw[Tryz.params9] at i a;obtain⟨k,a5,d0,a6,p0,q0,a7,rfl,rfl,B,D⟩:=trodAll_cons i;obtain⟨l,a8,d1,a9,E,q1,rfl,rfl,rfl,n,F⟩:=trodAll_cons D;obtain⟨o,aa,d2,ab,G,q2,rfl,rfl,rfl,r,I⟩:=trodAll_cons F;obtain⟨s,ac,d3,ad,p3,q3,rfl,rfl,rfl,J,K⟩:=trodAll_cons I;obtain⟨rfl,rfl,rfl⟩:=trodAll_nil K;obtain rfl:b=#[k,l,o,s]:=by cases b;simp_all
 obtain⟨rfl,rfl⟩:=trodVars_none A;obtain⟨L,rfl,rfl,rfl,M⟩:=open_int BX (a 0 3 k rfl rfl) B;obtain⟨ae,af,N,rfl⟩:=okWide_slice Tryz.underlying105 (a 1 105 l rfl rfl);have u:=n;have O:∀ x∈E,x.block<W.heap.size:=by obtain⟨m,c⟩:=u;exact DataW.trod_lt m _ _ _ c
 obtain⟨ag,P,Q⟩:=YAp n;obtain⟨ah,ai,R,rfl⟩:=okWide_slice Tryz.underlying106 (a 2 106 o rfl rfl);have w:=r;have S:∀ x∈G,x.block<W.heap.size:=by obtain⟨m,c⟩:=w;exact DataW.trod_lt m _ _ _ c
 obtain⟨aj,T,U⟩:=JAs r;obtain⟨V,rfl,rfl,rfl,X⟩:=open_int BX (a 3 3 s rfl rfl) J;clear h f;refine(XAc L N R V P Q T U).mono fun e W' ⟨Y,hk⟩=>?_;subst Y;have d:=hk.below;exact⟨_,rfl,_,_,_,[],_,[],z,(trodAll_cons_mk (shut_bool Tryz.underlying4 _) trodAll_mk0),(trodAll_cons_mk (shut_int BX M) (trodAll_cons_mk (Below.trod laidOut (by kernel_rfl) (Dh (by kernel_rfl)) u d O) (trodAll_cons_mk (Below.trod laidOut (by kernel_rfl) (Dh (by kernel_rfl)) w d S) (trodAll_cons_mk (shut_int BX X) trodAll_mk0)))),rfl,d.frame _,fun a0=>by cases a0⟩

theorem over:Rows.frontLatestRow.holds Tryz.pinned (OpenSpec.ofChange Rows.frontLatestSpec):=
 OpenClaim.holds_of_wide 9 Tryz.f9 rfl rfl rfl rfl rfl rfl rfl ⟨rfl,rfl,rfl,rfl,rfl⟩ rfl rfl rfl rfl rfl (by kernel_rfl) D9 closed
  (Dh (by kernel_rfl)) (by unfold Func.isWrapper;first | (rw[AP (by decide +kernel)];kernel_rfl) | (rw[AL (by decide +kernel)];exact⟨rfl,rfl⟩))
  (fun os a H enc _=>JBo (os:=os) a H enc)

/-- The statement. -/
theorem proved:Rows.FrontLatestSaid:=over