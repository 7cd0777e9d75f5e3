/- Lemmas of the proof, with their conditions. -/
import Derived.Test.YtfedaknhecbehaaGreatM15
import Derived.Test.YtfedaknhecbehaaGreatM16
import Derived.Test.YtfedaknhecbehaaGreatM08
import Derived.Shelf.RegionOpen
import Derived.LoopNIn
import Derived.LoopIn
namespace Go.Proofs.YtfedaknhecbehaaGreat
open Tryz
set_option linter.all false
set_option maxHeartbeats 2000000
set_option maxRecDepth 100000
section
open Go.RowKit Go.Shelf
attribute [local go_sem] AW
def VAS (g o:Nat) (x:Nat):Array Value:=#[.slice (some (aq g (o+64*x))) 64 64]
def ZBY (g q:Nat) (h:Option Obj) (pre:List Nat) (x:Nat) (W:World):Prop:=x=pre.length/\x<q/\W.heap[g]? = h
def QBe (g b1 b2:Nat) (v:Value) (W W':World):Prop:=W'.heap[g]? = W.heap[g]? /\ (Boxed W b1 66 v->Boxed W' b1 66 v)/\(Boxed W b2 3 (.int .i64 64)->Boxed W' b2 3 (.int .i64 64))
theorem YAH (n:Nat) (v:Value) (w:World) (a:v.oneCell'=true) :
 CallsIn Fence.wide n prog 331 #[v,ii 64] w fun e w'=>e=.returned (.func (.func 390) #[] #[pq w.heap.size,pq (w.heap.size+1)])/\w'=(w.alloc (.cells #[v] 66)).alloc (.cells #[ii 64] 3):=by
 refine(AQ (n:=n)).2 ?_;go_enter func331,ntmps331
 go_wp2
 go_ret;exact⟨rfl,rfl⟩
theorem Yo {b1 a:Nat} (n g o q c:Nat) {w:World} (V:q<=1000) (L:64*q<=c) (f:Boxed w b1 66 (.slice (some (aq g o)) (64*q) c)) (j:Boxed w a 3 (.int .i64 64)) (M:g<w.heap.size) :
 ZBI n prog 390 #[pq b1,pq a] (VAS g o) (ZBY g q w.heap[g]?) (QBe g b1 a (.slice (some (aq g o)) (64*q) c)) (fun xs=>xs=List.range q) w:=by
 intro l J W r N u v;have y:W.heap[g]? = w.heap[g]? := r.block g M sq;replace f:Boxed W b1 66 (.slice (some (aq g o)) (64*q) c):=(r.block b1 f.lt sq).trans f;replace j:Boxed W a 3 (.int .i64 64):=(r.block a j.lt sq).trans j;refine Cd func390 rfl trivial ?_ rfl;simp only[ntmps390,PL,Nat.reduceAdd,Nat.reduceSub];obtain⟨Q,b⟩:=ex (64*q);rw[<- b] at f u L;have z:=ZB b;clear b
 gi_wp2
 gi_loopw [4,5] (fun i _ wr=>∃ (k:Nat) (m:List Nat),k<=q/\Hid (i=.int .i64 ((64*k:Nat)))/\J m wr/\Hid (m=List.range k)/\wr.heap[g]? = w.heap[g]? /\ Boxed wr b1 66 (.slice (some (aq g o)) Q c)/\Boxed wr a 3 (.int .i64 64))
  (fun i _ _=>Q-(intOf i).toNat)
 case atStart=>exact⟨0,[],AP _,rfl,v,rfl,y,f,j⟩
 clear f j v y;obtain⟨k,m,X,hi,A,s,B,C,D⟩:=hrel;have E:=ZA hi;obtain⟨i,d⟩:=ex (64*k);rw[<- d] at E;subst E;have p:=ZB d;clear hi d;have F:=C.cell;have G:=D.cell;by_cases Y:i<Q
 . have b:=ZA z
   have d:=ZA p;have a0:((i:Nat):Int)<(Q:Nat):=Z
   have O:i+64<=Q:=Z
   have a1:Q<=64000:=Z
   have H:k<q:=Z
   have a2:i<=Q:=Z
   have a3:¬ c=i:=Z
   have a4:i+64<=c:=Z
   have a5:((64:Int)<=((Q-i:Nat):Int)):=Z
   have a6:IntKind.i64.wrap ((i:Nat)+64:Int)=(i:Nat)+64:=by rw[AI];omega
   have a7:((i:Nat)+64:Int).toNat=i+64:=Z
   have a8:((i:Nat)+64:Int)<=(c:Nat):=Z
   clear b d
   gi_wp2
   refine Ck.2 ?_;refine ZT (fun w'=>cl w' b1 (.slice (some (aq g o)) Q c)/\cl w' a (ii 64)) 5 [[0,1,2,3,4]] ⟨F,G⟩ ?_;simp only[PI];iterate 5 refine wG ?_
   refine VB ?_;go_wp2_with fail;obtain⟨fn,a9,aa,ab,t,I⟩:=u m k wr.drew (N _ _ _ A (Keep.refl [] _).drew) ⟨by have:=ZA s;rw[this];simp,H,B⟩;dsimp only[VAS] at t;rw[<- ZA p] at t
   gi_wp2
   refine⟨fun h=>by simp[Fence.wide] at h,I.mono ?_⟩;rintro e ac ⟨rfl,P,R,S,T⟩;have U:=S C;have K:=T D;have ad:=K.cell;clear t I F G
   gi_wp2
   go_roundw
   case rel=>
    refine⟨k+1,_,H,(by show _=_;have:=ZA p;congr 1;omega),P,(by show _=_;rw[ZA s,Bq]),R.trans B,U,K⟩
   case measure=>simp[intOf];omega
 have b:=ZA z
 have d:=ZA p;obtain rfl:k=q:=Z
 have O:¬ ((i:Nat):Int)<(Q:Nat):=Z
 clear b d
 gi_wp2
 go_end0
 have e:=ZA s;rw[<- e];exact⟨⟨_,rfl⟩,A⟩