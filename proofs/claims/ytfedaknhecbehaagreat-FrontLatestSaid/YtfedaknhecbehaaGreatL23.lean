/- Lemmas of the proof, with their conditions. -/
import Derived.Test.YtfedaknhecbehaaGreatL03
import Derived.Test.YtfedaknhecbehaaGreatL08
import Derived.Deep.Cut
namespace Go.Proofs.YtfedaknhecbehaaGreat
open Tryz Go.RowKit
variable {w:World}
set_option linter.all false
set_option maxHeartbeats 2000000
set_option maxRecDepth 20000
theorem VBc (n:Nat) (a:n<=65536):bits BinOp.and IntKind.u64 ((n:Nat):Int) 4294967295=(n:Nat):=by
 show IntKind.u64.wrap ((BitVec.ofInt 64 ((n:Nat):Int) &&& BitVec.ofInt 64 4294967295).toNat:Int)=_;rw[CQ,show BitVec.ofInt 64 4294967295=BitVec.ofNat 64 4294967295 by decide,CW,CA,CA,Bh Z,Bh Z,show 4294967295=2 ^ 32-1 by decide,Cp,Bh Z];rw[show IntKind.u64.wrap ((n:Nat):Int)=((n:Nat):Int) % 18446744073709551616 from rfl];omega
theorem VBK (n:Nat) (a:n<=65536) (w:World):cq 445 #[.int .u64 1,.int .u64 (n:Nat)] w (.tuple #[.int .u64 0,.int .u64 (n:Nat)]):=by
 have b:=VBc n a;have c:bits BinOp.and IntKind.u64 1 4294967295=1:=by decide
 have d:bits BinOp.and IntKind.u64 0 4294967295=0:=by decide
 have e:IntKind.u64.wrap ((n:Nat):Int)=(n:Nat):=by rw[show IntKind.u64.wrap ((n:Nat):Int)=((n:Nat):Int) % 18446744073709551616 from rfl];omega
 have f:IntKind.u64.wrap 0=0:=by decide
 have g:((n:Nat):Int) / 4294967296=0:=Z;have h:((n:Nat):Int)<=65536:=Z;go_enter func445,ntmps445
 go_wp2
 go_ret2;exact⟨rfl,rfl⟩
theorem JBd (n:Nat) (a:n<=65536) (w:World):cq 414 #[.int .u64 1,.int .u64 (n:Nat)] w (.tuple #[.int .u64 0,.int .u64 (n:Nat)]):=by
 have b:=VBK n a w;go_enter func414,ntmps414;go_wp2_with (apply mq b);go_ret2;exact⟨rfl,rfl⟩
theorem Elem.wp1_copy {P:Program} {t e:TypeId} {z:Value} {F:Nat} (E:Elem P t e z F) {o:Oper} {a:Act} {K:Act->World->Prop} {Q:Exit->Act->World->Prop} (d s:Operand)
 (G:o.op=.call { callee:=.builtin .copy,args:=#[d,s],argTypes:=#[t,t] })
 (g m c u:Nat) (A:Option Addr) (f y:Nat) (H:a.eval d=.slice (some (aq g m)) c u) (I:a.eval s=.slice A f y)
 (l:List Value) (n:TypeId) (B:Blk w g n l.toArray) (S:m+c<=l.length)
 (ys:List Value) (C:Rd w A f ys) (J:∀ v∈ys.take c,v.oneCell'=true) (T:0<Nat.min f c)
 (h:∀ w',Blk w' g n (laid l m (ys.take c)).toArray->Keep [g] w w'->K (a.put o.dst (.int .i64 (Nat.min f c:Nat))) w'):o.wp P a w K Q:=by
 obtain⟨i,hi,U,L,V⟩:=E.info;have M:(P.info? e).map (·.size)=some 1:=by rw[hi];simp[L]
 have p:(ys.take c).length=Nat.min f c:=by rw[BE,C.1];exact Nat.min_comm _ _
 have W:Nat.min f c<=f:=Nat.min_le_left _ _;have X:Nat.min f c<=c:=Nat.min_le_right _ _;obtain⟨b,N,rfl,Y,O⟩:=C.2 Z
 have D:=run_copy_row (P:=P) w t t o.type e g m c u ⟨b,N,none⟩ f y l.toArray n (ys.take c) E.und M B p (fun j v r=>by
  rw[Be];refine O j v ?_;rw[Bb] at r
  split at r
  . exact r
  cases r) (by rw[p];simp;omega) J
 rw[p] at D;unfold Oper.wp execOp;simp only[G,resolve,invoke,builtin,Bz,By,BU,Cn,CN,C4,H,I,D];refine h _ ?_ ⟨rfl,rfl,rfl,by simp[World.setRow],fun k hk R=>DU w g k _ (uq R)⟩;show _=_;have:=De w g l.toArray (l.take m++ys.take c++l.drop (m+Nat.min f c)).toArray n _ B;unfold laid;rw[p];simpa using this
theorem elemInts:Elem prog 53 3 (.int .i64 0) 8:=Elem.of underlying53 (by kernel_rfl) rfl
theorem Xt {A:Option Addr} (c:Nat) (z:Int) (n:Nat) (H:0<n) (I:n<=4096) (u:Rd w A 1 [.int .i64 z]) :
 Calls prog 367 #[.slice A 1 c,n] w fun e w'=>∃ v,e=.returned v/\w'.ownsRow w.heap.size 3 1 v n (List.replicate n (.int .i64 z))/\kz w w':=by
 have y:=fun W=>JBd n Z W;have J:((n:Nat):Int)<=4096:=Z;have L:IntKind.u64.wrap ((n:Nat):Int)=(n:Nat):=by rw[show IntKind.u64.wrap ((n:Nat):Int)=((n:Nat):Int) % 18446744073709551616 from rfl];omega
 go_enter func367,ntmps367
 go_upto_region 7 with(first
  | (go_at_call 414;apply mq (y _))
  | (at_make;refine elemInts.wp_make rfl _ _ rfl .i64 .i64 n n n rfl rfl rfl rfl Z Z ?_))
 refine wp_region_lit ?_;refine Vq rfl rfl ?_;simp only[Act.put,PU];refine Vq rfl rfl ?_;simp only[Act.put,PU];refine Bx rfl fun K a=>?_;refine elemInts.wp1_copy (.tmp 31) (.tmp 32) rfl w.heap.size 0 n n A 1 c rfl rfl (List.replicate n (.int .i64 0)) 3 (by have:=Blk.new w 3 (Array.replicate n (.int .i64 0));simpa using this) sq _ (u.keep ((Keep.refl _ w).alloc _)) (by intro v d;have:=CI d;simp at this;subst this;rfl) (by rw[show Nat.min 1 n=1 from CE Z];omega) ?_;intro w1 l B;refine a _ _ ?_;simp only[Act.put,PU];clear a K;rw[show Nat.min 1 n=1 from CE Z];have f:kz w w1:=((Keep.refl [] w).alloc _).trans B iq
 have C:Blk w1 w.heap.size 3 (List.replicate 1 (Value.int .i64 z)++List.replicate (n-1) (Value.int .i64 0)).toArray:=by
  have e:laid (List.replicate n (Value.int .i64 0)) 0 ([Value.int .i64 z].take n)=List.replicate 1 (Value.int .i64 z)++List.replicate (n-1) (Value.int .i64 0):=by
   rw[AH (by simp;omega)];simp[laid]
  rw[<- e];exact l
 clear l;go_wp2_with fail;go_loopw [8] (fun i wr=>∃ m:Nat,1<=m/\m<=n/\i=.int .i64 m/\Blk wr w.heap.size 3 (List.replicate m (Value.int .i64 z)++List.replicate (n-m) (Value.int .i64 0)).toArray/\kz w wr) (fun i _=>n-(intOf i).toNat)
 case atStart=>exact⟨1,AG _,Z,rfl,C,f⟩
 obtain⟨m,M,N,rfl,b,o⟩:=hrel;obtain⟨g,h⟩:=ex w.heap.size;rw[<- h] at b ⊢;have p:=JB h;clear h;by_cases O:m<n
 . have P:((m:Nat):Int)<(n:Nat):=Z
   have Q:¬ n=m:=Z;go_wp2_with fail;refine ZT (fun _=>True) 8 [[0,1,2,3,4,5,6],[7]] trivial ?_;simp only[PI];iterate 7 refine wG ?_
   refine YB rq (fun K a=>?_)
   have D:Rd wr.drew (some (aq g 0)) m (List.replicate m (.int .i64 z)):=by
    have:=Rd.of_blk b.drew (n:=m) sq
    rwa [show (List.replicate m (Value.int .i64 z)++List.replicate (n-m) (Value.int .i64 0)).toArray.toList.take m=List.replicate m (Value.int .i64 z) from sq] at this
   refine elemInts.wp1_copy (.tmp 41) (.tmp 44) rfl g m (n-m) (n-m) (some (aq g 0)) m n rq rq _ 3 b.drew sq _ D (by intro v d;have:=CI d;simp at this;obtain⟨_,rfl⟩:=this;rfl) (by show 0<min m (n-m);omega) ?_;intro E r s;refine a _ _ (trivial) ?_
   try simp only[Act.put,PU]
   refine KB ?_;obtain⟨q,j⟩:=ex (Nat.min m (n-m));rw[<- j];have F:q=min m (n-m):=j;have t:1<=q/\m+q<=n:=Z
   have e:laid (List.replicate m (Value.int .i64 z)++List.replicate (n-m) (Value.int .i64 0)) m ((List.replicate m (Value.int .i64 z)).take (n-m))=List.replicate (m+q) (Value.int .i64 z)++List.replicate (n-(m+q)) (Value.int .i64 0):=by
    rw[Cu,show min (n-m) m=q from Z];unfold laid;rw[Ai,CK sq,AH sq,CJ,BM sq,Ai,Ad,CZ,CY]
    congr 2;omega
   rw[e] at r;have f:kz w E:=o.trans ((Keep.refl [g] wr).drew.trans s (fun x k=>.inl k)) (fun x k=>.inr (by have:=JA p;simp at k;omega));clear j F e s;obtain⟨t,G⟩:=t;go_wp2_with fail;go_roundw;case rel=>exact⟨m+q,Z,G,by go_num,r,f⟩
   case measure=>simp[intOf];omega
 obtain rfl:m=n:=Z;go_wp2_with fail;go_ret;refine⟨_,rfl,?_,o⟩;rw[<- JA p];refine XS b (AG _) Z sq sq