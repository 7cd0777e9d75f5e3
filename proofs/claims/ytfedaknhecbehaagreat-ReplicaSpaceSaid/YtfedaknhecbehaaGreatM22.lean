/- Lemmas of the proof, with their conditions. -/
import Derived.Test.YtfedaknhecbehaaGreatM03
import Derived.Test.YtfedaknhecbehaaGreatM08
import Derived.Deep.Cut
namespace Go.Proofs.YtfedaknhecbehaaGreat
open Tryz Go.RowKit
variable {w:World}
set_option linter.all false
set_option maxHeartbeats 2000000
set_option maxRecDepth 20000
theorem QBZ (n:Nat) (a:n<=65536):bits BinOp.and IntKind.u64 ((n:Nat):Int) 4294967295=(n:Nat):=by
 show IntKind.u64.wrap ((BitVec.ofInt 64 ((n:Nat):Int) &&& BitVec.ofInt 64 4294967295).toNat:Int)=_;rw[B1,show BitVec.ofInt 64 4294967295=BitVec.ofNat 64 4294967295 by decide,Cv,Bn,Bn,BO Z,BO Z,show 4294967295=2 ^ 32-1 by decide,Cs,BO Z];rw[show IntKind.u64.wrap ((n:Nat):Int)=((n:Nat):Int) % 18446744073709551616 from rfl];omega
theorem JAw (n:Nat) (a:n<=65536) (w:World):cq 445 #[.int .u64 1,.int .u64 (n:Nat)] w (.tuple #[.int .u64 0,.int .u64 (n:Nat)]):=by
 have b:=QBZ n a;have c:bits BinOp.and IntKind.u64 1 4294967295=1:=by decide
 have d:bits BinOp.and IntKind.u64 0 4294967295=0:=by decide
 have e:IntKind.u64.wrap ((n:Nat):Int)=(n:Nat):=by rw[show IntKind.u64.wrap ((n:Nat):Int)=((n:Nat):Int) % 18446744073709551616 from rfl];omega
 have f:IntKind.u64.wrap 0=0:=by decide
 have g:((n:Nat):Int) / 4294967296=0:=Z
 have h:((n:Nat):Int)<=65536:=Z
 go_enter func445,ntmps445
 go_wp2
 go_ret2;exact⟨rfl,rfl⟩
theorem XBX (n:Nat) (b:n<=65536) (w:World):cq 414 #[.int .u64 1,.int .u64 (n:Nat)] w (.tuple #[.int .u64 0,.int .u64 (n:Nat)]):=by
 have a:=JAw n b w;go_enter func414,ntmps414;go_wp2_with (refine a.mono ?_;clear a;rintro e w' ⟨rfl,rfl⟩);go_ret2;exact⟨rfl,rfl⟩
theorem Elem.wp1_copy {P:Program} {t e:TypeId} {z:Value} {D:Nat} (E:Elem P t e z D) {o:Oper} {a:Act} {K:Act->World->Prop} {Q:Exit->Act->World->Prop} (d s:Operand)
 (F:o.op=.call { callee:=.builtin .copy,args:=#[d,s],argTypes:=#[t,t] })
 (g m c r:Nat) (A:Option Addr) (f u:Nat) (G:a.eval d=.slice (some (aq g m)) c r) (H:a.eval s=.slice A f u)
 (l:List Value) (n:TypeId) (y:Blk w g n l.toArray) (R:m+c<=l.length)
 (ys:List Value) (B:Rd w A f ys) (I:∀ v∈ys.take c,v.oneCell'=true) (S:0<Nat.min f c)
 (h:∀ w',Blk w' g n (laid l m (ys.take c)).toArray->Keep [g] w w'->K (a.put o.dst (.int .i64 (Nat.min f c:Nat))) w'):o.wp P a w K Q:=by
 obtain⟨i,hi,T,J,U⟩:=E.info;have L:(P.info? e).map (·.size)=some 1:=by rw[hi];simp[J]
 have p:(ys.take c).length=Nat.min f c:=by rw[BH,B.1];exact Nat.min_comm _ _
 have V:Nat.min f c<=f:=Nat.min_le_left _ _;have W:Nat.min f c<=c:=Nat.min_le_right _ _;obtain⟨b,M,rfl,X,N⟩:=B.2 Z
 have C:=run_copy_row (P:=P) w t t o.type e g m c r ⟨b,M,none⟩ f u l.toArray n (ys.take c) E.und L y p (fun j v q=>by
  rw[Bw];refine N j v ?_;rw[Bb] at q
  split at q
  . exact q
  cases q) (by rw[p];simp;omega) I
 rw[p] at C;unfold Oper.wp execOp;simp only[F,resolve,invoke,builtin,B8,B7,BV,Co,CN,Cx,G,H,C];refine h _ ?_ ⟨rfl,rfl,rfl,by simp[World.setRow],fun k Y O=>DY w g k _ (uq O)⟩;show _=_;have:=Df w g l.toArray (l.take m++ys.take c++l.drop (m+Nat.min f c)).toArray n _ y;unfold laid;rw[p];simpa using this
theorem elemInts:Elem prog 53 3 (.int .i64 0) 8:=Elem.of underlying53 (by kernel_rfl) rfl
theorem Zp {A:Option Addr} (c:Nat) (z:Int) (n:Nat) (H:0<n) (I:n<=4096) (u:Rd w A 1 [.int .i64 z]) :
 Calls prog 367 #[.slice A 1 c,n] w fun e w'=>∃ v,e=.returned v/\w'.ownsRow w.heap.size 3 1 v n (List.replicate n (.int .i64 z))/\kz w w':=by
 have y:=fun W=>XBX n Z W;have J:((n:Nat):Int)<=4096:=Z
 have L:IntKind.u64.wrap ((n:Nat):Int)=(n:Nat):=by rw[show IntKind.u64.wrap ((n:Nat):Int)=((n:Nat):Int) % 18446744073709551616 from rfl];omega
 go_enter func367,ntmps367
 go_upto_region 7 with(first
  | (go_at_call 414;refine(y _).mono ?_;rintro e w' ⟨rfl,rfl⟩)
  | (at_make;refine elemInts.wp_make rfl _ _ rfl .i64 .i64 n n n rfl rfl rfl rfl Z Z ?_))
 refine wp_region_lit ?_;refine Jl rfl rfl ?_;simp only[Act.put,PU];refine Jl rfl rfl ?_;simp only[Act.put,PU];refine B5 rfl fun K a=>?_;refine elemInts.wp1_copy (.tmp 31) (.tmp 32) rfl w.heap.size 0 n n A 1 c rfl rfl (List.replicate n (.int .i64 0)) 3 (by have:=Blk.new w 3 (Array.replicate n (.int .i64 0));simpa using this) sq _ (u.keep ((Keep.refl _ w).alloc _)) (by intro v d;have:=Ch d;simp at this;subst this;rfl) (by rw[show Nat.min 1 n=1 from CO Z];omega) ?_;intro w1 l B;refine a _ _ ?_;simp only[Act.put,PU];clear a K;rw[show Nat.min 1 n=1 from CO Z];have f:kz w w1:=((Keep.refl [] w).alloc _).trans B iq
 have C:Blk w1 w.heap.size 3 (List.replicate 1 (Value.int .i64 z)++List.replicate (n-1) (Value.int .i64 0)).toArray:=by
  have e:laid (List.replicate n (Value.int .i64 0)) 0 ([Value.int .i64 z].take n)=List.replicate 1 (Value.int .i64 z)++List.replicate (n-1) (Value.int .i64 0):=by
   rw[AK (by simp;omega)];simp[laid]
  rw[<- e];exact l
 clear l;go_wp2_with fail;go_loopw [8] (fun i wr=>∃ m:Nat,1<=m/\m<=n/\i=.int .i64 m/\Blk wr w.heap.size 3 (List.replicate m (Value.int .i64 z)++List.replicate (n-m) (Value.int .i64 0)).toArray/\kz w wr) (fun i _=>n-(intOf i).toNat)
 case atStart=>exact⟨1,AG _,Z,rfl,C,f⟩
 obtain⟨m,M,N,rfl,b,o⟩:=hrel;obtain⟨g,h⟩:=ex w.heap.size;rw[<- h] at b ⊢;have p:=ZB h;clear h;by_cases O:m<n
 . have P:((m:Nat):Int)<(n:Nat):=Z
   have Q:¬ n=m:=Z
   go_wp2_with fail;refine ZT (fun _=>True) 8 [[0,1,2,3,4,5,6],[7]] trivial ?_;simp only[PI];iterate 7 refine wG ?_
   refine JB rq fun K a=>?_
   have D:Rd wr.drew (some (aq g 0)) m (List.replicate m (.int .i64 z)):=by
    have:=Rd.of_blk b.drew (n:=m) sq
    rwa [show (List.replicate m (Value.int .i64 z)++List.replicate (n-m) (Value.int .i64 0)).toArray.toList.take m=List.replicate m (Value.int .i64 z) from sq] at this
   refine elemInts.wp1_copy (.tmp 41) (.tmp 44) rfl g m (n-m) (n-m) (some (aq g 0)) m n rq rq _ 3 b.drew sq _ D (by intro v d;have:=Ch d;simp at this;obtain⟨_,rfl⟩:=this;rfl) (by show 0<min m (n-m);omega) ?_;intro E r s;refine a _ _ (trivial) ?_
   try simp only[Act.put,PU]
   refine VB ?_;obtain⟨q,j⟩:=ex (Nat.min m (n-m));rw[<- j];have F:q=min m (n-m):=j;have t:1<=q/\m+q<=n:=Z
   have e:laid (List.replicate m (Value.int .i64 z)++List.replicate (n-m) (Value.int .i64 0)) m ((List.replicate m (Value.int .i64 z)).take (n-m))=List.replicate (m+q) (Value.int .i64 z)++List.replicate (n-(m+q)) (Value.int .i64 0):=by
    rw[Cw,show min (n-m) m=q from Z];unfold laid;rw[BD,CI sq,AK sq,CH,BL sq,BD,Am,CV,List.replicate_append_replicate]
    congr 2;omega
   rw[e] at r;have f:kz w E:=o.trans ((Keep.refl [g] wr).drew.trans s (fun x k=>.inl k)) (fun x k=>.inr (by have:=ZA p;simp at k;omega));clear j F e s;obtain⟨t,G⟩:=t;go_wp2_with fail;go_roundw;case rel=>exact⟨m+q,Z,G,by go_num,r,f⟩
   case measure=>simp[intOf];omega
 obtain rfl:m=n:=Z
 go_wp2_with fail;go_ret;refine⟨_,rfl,?_,o⟩;rw[<- ZA p];refine QR b (AG _) Z sq sq