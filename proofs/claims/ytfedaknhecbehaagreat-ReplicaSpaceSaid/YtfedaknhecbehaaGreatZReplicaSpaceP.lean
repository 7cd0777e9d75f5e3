/-
  ReplicaSpace returns true at every input, and what came in reads as it did: where there is no room it is told, what came stays where it is, and nothing else is turned; behind a Round that made room it is gone on with, and not one op is left out or done twice. No condition.
-/
import Derived.Test.YtfedaknhecbehaaGreatM50
import Derived.Test.YtfedaknhecbehaaGreatM47
import Derived.Test.YtfedaknhecbehaaGreatM49
namespace Go.Proofs.YtfedaknhecbehaaGreat.replicaSpace
set_option linter.all false
set_option maxRecDepth 100000
open Go.ChangeShapes Go.WideShapes Go.ChangeAt Go.RowKit Go.Deep

theorem own:ownKnob Tryz.prog.godebug=none:=by kernel_rfl

theorem VBi {os:Os} (n:os.Started) (H:Type) (enc:TypeId×Value->H) :
 ReturnsInHanded {} Tryz.checked os 8 .any (Rows.replicaSpaceSpec.pre6 enc Tryz.prog Tryz.f8 Rows.replicaSpaceRow.domain false) (Rows.replicaSpaceSpec.post enc Tryz.prog Tryz.f8 false true false false):=by
 refine returnsInHanded_of_change (C:=Tryz.checked) own n (by kernel_rfl) Tryz.func8
  (ChangeSpec.witness6 (enc:=enc) (C:=Tryz.checked) false ⟨#[],#[zz,zz,zz,zz],[]⟩ 8 (by kernel_rfl) (by kernel_rfl) (by kernel_rfl) (by kernel_rfl)) ?_
 intro W base b o P Q c d R _;have a:∀ (j:Nat) t v,Tryz.f8.params[j]? = some t->b[j]? = some v->Value.okWide Tryz.prog W .any base t v:=c;have r:=d;obtain⟨p,q,f,s,rfl,S,T⟩:=d;have g:DataW.TrodAll enc Tryz.prog W 0 (fun _=>true) true Tryz.f8.params.toList b.toList o p:=f;rw[Tryz.params8] at g a;obtain⟨i,U,V,X,p0,Y,a0,rfl,rfl,u,w⟩:=trodAll_cons g;obtain⟨k,a1,d1,a2,p1,q1,rfl,rfl,rfl,y,z⟩:=trodAll_cons w;obtain⟨l,a3,d2,a4,p2,q2,rfl,rfl,rfl,A,B⟩:=trodAll_cons z;obtain⟨m,a5,d3,a6,p3,q3,rfl,rfl,rfl,D,E⟩:=trodAll_cons B;obtain⟨rfl,rfl,rfl⟩:=trodAll_nil E;obtain rfl:b=#[i,k,l,m]:=by cases b;simp_all
 obtain⟨rfl,rfl⟩:=trodVars_none s;obtain⟨F,rfl,rfl,rfl,w0⟩:=open_int Bx (a 0 3 i rfl rfl) u;obtain⟨G,rfl,rfl,rfl,w1⟩:=open_int Bx (a 1 3 k rfl rfl) y;obtain⟨I,rfl,rfl,rfl,J⟩:=open_int Bx (a 2 3 l rfl rfl) A;obtain⟨K,rfl,rfl,rfl,L⟩:=open_int Bx (a 3 3 m rfl rfl) D;clear f c;refine(KAh F G I K W ).mono fun e W' ⟨M,N⟩=>?_;subst M;have O:=N.below;exact⟨_,rfl,_,_,_,[],_,[],r,(trodAll_cons_mk (shut_bool Tryz.underlying4 _) trodAll_mk0),(trodAll_cons_mk (shut_int Bx w0) (trodAll_cons_mk (shut_int Bx w1) (trodAll_cons_mk (shut_int Bx J) (trodAll_cons_mk (shut_int Bx L) trodAll_mk0)))),rfl,O.frame _,fun h=>by cases h⟩

theorem over:Rows.replicaSpaceRow.holds Tryz.pinned (OpenSpec.ofChange Rows.replicaSpaceSpec):=
 OpenClaim.holds_of_wide 8 Tryz.f8 rfl rfl rfl rfl rfl rfl rfl ⟨rfl,rfl,rfl,rfl,rfl⟩ rfl rfl rfl rfl rfl (by kernel_rfl) Tryz.func8 closed
  (of_decide_eq_true (by kernel_rfl)) (by unfold Func.isWrapper;first | (rw[AJ (by decide +kernel)];kernel_rfl) | (rw[AF (by decide +kernel)];exact⟨rfl,rfl⟩))
  (fun os a H enc _=>VBi (os:=os) a H enc)

/-- The statement. -/
theorem proved:Rows.ReplicaSpaceSaid:=over