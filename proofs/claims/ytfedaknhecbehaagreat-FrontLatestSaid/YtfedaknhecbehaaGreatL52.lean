/- Lemmas of the proof, with their conditions. -/
import Derived.Test.YtfedaknhecbehaaGreatL51
import Derived.Test.YtfedaknhecbehaaGreatL50
namespace Go.Proofs.YtfedaknhecbehaaGreat
open Tryz
variable {W:World} {base len0 cap0:Nat} {spare:Nat->Bool} {held:Bool} {a0:Option Addr}
set_option linter.all false
section
open Go.ChangeShapes Go.WideShapes Go.ChangeAt Go.RowKit Go.Deep
theorem YAp {H:Type} {enc:TypeId×Value->H} {d:DataW H} {y:List MemPlace} (g:DataW.Trod enc prog W base spare held 105 (.slice a0 len0 cap0) d y) :
 ∃ zs,PartsAt W a0 len0 zs/\len0<=9223372036854775807:=by
 obtain⟨R,A⟩:=g;rcases Zc underlying105 underlying232 (by kernel_rfl) (by kernel_rfl) A with e | ⟨a,l,c,e,B,C,hi⟩
 . simp[Value.cells] at e
   obtain⟨rfl,rfl,rfl⟩:=e;exact⟨[],⟨rfl,fun h=>Z⟩,Z⟩
 simp[Value.cells] at e;obtain⟨rfl,rfl,rfl⟩:=e
 have j:∀ i,i<len0->∃ z:Int×Int×Int,cl W (a.add (i*3+0)) (.int .i64 z.1)/\cl W (a.add (i*3+1)) (.int .i64 z.2.1)/\cl W (a.add (i*3+2)) (.int .i64 z.2.2):=by
  intro i b;obtain⟨n,o⟩:=hi i b;obtain⟨S,T,D,E⟩:=o 0 _ rfl;obtain⟨U,V,F,G⟩:=o 1 _ rfl;obtain⟨X,Y,I,J⟩:=o 2 _ rfl;obtain⟨K,p,_,_⟩:=CX (k:=.i64) underlying3 E;obtain⟨L,r,_,_⟩:=CX (k:=.i64) underlying3 G;obtain⟨M,s,_,_⟩:=CX (k:=.i64) underlying3 J;simp only[DR,DX] at p r s;subst p r s;exact⟨(K,L,M),D,F,I⟩
 refine⟨(List.range len0).map fun i=>if h:i<len0 then Classical.choose (j i h) else (0,0,0),⟨sq,fun g=>?_⟩,by simpa [maxLen] using AA B C⟩;obtain⟨N,O,P⟩:=a
 have Q:P=none:=by
  obtain⟨z,m,_⟩:=j 0 g;simpa [Addr.add] using World.cell?_spot m
 subst Q;refine⟨N,O,rfl,?_,fun i z f=>?_⟩
 . obtain⟨z,m,_⟩:=j 0 g
   rw[Be] at m;exact World.block_lt_of_cell? W _ m
 rw[Aa] at f;rcases BP i len0 with b | b
 . rw[DF b,Ao,Ae,dif_pos b] at f
   have t:=Classical.choose_spec (j i b);rw[f] at t;obtain⟨u,v,w⟩:=t;rw[Be] at u v w;exact⟨u,v,w⟩
 rw[BF (uq b)] at f;cases f
end
section
open Go.ChangeShapes Go.WideShapes Go.ChangeAt Go.RowKit Go.Deep
theorem JAs {H:Type} {enc:TypeId×Value->H} {d:DataW H} {B:List MemPlace} (g:DataW.Trod enc prog W base spare held 106 (.slice a0 len0 cap0) d B) :
 ∃ zs,DeedsAt W a0 len0 zs/\len0<=9223372036854775807:=by
 obtain⟨X,C⟩:=g;rcases Zc underlying106 underlying118 (by kernel_rfl) (by kernel_rfl) C with e | ⟨a,l,c,e,D,E,hi⟩
 . simp[Value.cells] at e
   obtain⟨rfl,rfl,rfl⟩:=e;exact⟨[],⟨rfl,fun h=>Z⟩,Z⟩
 simp[Value.cells] at e;obtain⟨rfl,rfl,rfl⟩:=e
 have j:∀ i,i<len0->∃ z:Int×Int×Int×Int,cl W (a.add (i*4+0)) (.int .i64 z.1)/\cl W (a.add (i*4+1)) (.int .i64 z.2.1)/\cl W (a.add (i*4+2)) (.int .i64 z.2.2.1)/\cl W (a.add (i*4+3)) (.int .i64 z.2.2.2):=by
  intro i b;obtain⟨n,m⟩:=hi i b;obtain⟨Y,y0,F,G⟩:=m 0 _ rfl;obtain⟨u1,y1,I,J⟩:=m 1 _ rfl;obtain⟨u2,y2,K,L⟩:=m 2 _ rfl;obtain⟨u3,y3,M,N⟩:=m 3 _ rfl;obtain⟨O,p,_,_⟩:=CX (k:=.i64) underlying3 G;obtain⟨P,r,_,_⟩:=CX (k:=.i64) underlying3 J;obtain⟨Q,s,_,_⟩:=CX (k:=.i64) underlying3 L;obtain⟨R,t,_,_⟩:=CX (k:=.i64) underlying3 N;simp only[DR,DX] at p r s t;subst p r s t;exact⟨(O,P,Q,R),F,I,K,M⟩
 refine⟨(List.range len0).map fun i=>if h:i<len0 then Classical.choose (j i h) else (0,0,0,0),⟨sq,fun g=>?_⟩,by simpa [maxLen] using AA D E⟩;obtain⟨S,T,U⟩:=a
 have V:U=none:=by
  obtain⟨z,o,_⟩:=j 0 g;simpa [Addr.add] using World.cell?_spot o
 subst V;refine⟨S,T,rfl,?_,fun i z f=>?_⟩
 . obtain⟨z,o,_⟩:=j 0 g
   rw[Be] at o;exact World.block_lt_of_cell? W _ o
 rw[Aa] at f;rcases BP i len0 with b | b
 . rw[DF b,Ao,Ae,dif_pos b] at f
   have u:=Classical.choose_spec (j i b);rw[f] at u;obtain⟨v,w,y,A⟩:=u;rw[Be] at v w y A;exact⟨v,w,y,A⟩
 rw[BF (uq b)] at f;cases f