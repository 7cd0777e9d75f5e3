/- Lemmas of the proof, with their conditions. -/
import Derived.Test.YtfedaknhecbehaaGreatL01
namespace Go.Proofs.YtfedaknhecbehaaGreat
open Tryz Go.RowKit
set_option linter.all false
set_option maxHeartbeats 1000000
def XAI (x c:BitVec 32):BitVec 32:=if (x ^^^ c) &&& 1#32=1#32 then (x >>> 1) ^^^ 0x82F63B78#32 else x >>> 1
def VX (x:BitVec 32) (c:UInt8) (n:Nat):BitVec 32:=(List.range n).foldl (fun x i=>XAI x (BitVec.ofNat 32 (c.toNat / 2 ^ i))) x
theorem Kt (x:BitVec 32) (c:UInt8) (n:Nat):VX x c (n+1)=XAI (VX x c n) (BitVec.ofNat 32 (c.toNat / 2 ^ n)):=by
 simp[VX,CF]
def ZQ (x:BitVec 32) (bs:List UInt8):BitVec 32:=bs.foldl (fun x c=>VX x c 8) x
theorem JAC (x:BitVec 32) (bs:List UInt8) (c:UInt8):ZQ x (bs++[c])=VX (ZQ x bs) c 8:=by simp[ZQ]
theorem XAK (x:BitVec 32) (a b:List UInt8):ZQ x (a++b)=ZQ (ZQ x a) b:=by simp[ZQ]
theorem Zn (x:BitVec 32):BitVec.ofInt 32 ((x.toNat:Nat):Int)=x:=by
 rw[CQ,BitVec.ofNat_toNat,BitVec.setWidth_eq]
theorem wrap_u32 (x:BitVec 32):IntKind.u32.wrap ((x.toNat:Nat):Int)=(x.toNat:Nat):=by
 have:=x.isLt;rw[IntKind.wrap_u32];omega
theorem VAJ (x y:BitVec 32):bits BinOp.xor IntKind.u32 (x.toNat:Nat) (y.toNat:Nat)=((x ^^^ y).toNat:Nat):=by
 show IntKind.u32.wrap ((BitVec.ofInt 32 ((x.toNat:Nat):Int) ^^^ BitVec.ofInt 32 ((y.toNat:Nat):Int)).toNat:Int)=_;rw[Zn,Zn,wrap_u32]
theorem JBL (x y:BitVec 32):bits BinOp.and IntKind.u32 (x.toNat:Nat) (y.toNat:Nat)=((x &&& y).toNat:Nat):=by
 show IntKind.u32.wrap ((BitVec.ofInt 32 ((x.toNat:Nat):Int) &&& BitVec.ofInt 32 ((y.toNat:Nat):Int)).toNat:Int)=_;rw[Zn,Zn,wrap_u32]
theorem VBp (c:UInt8) (m:Nat):((c.toNat:Nat):Int) / 2 ^ m=((BitVec.ofNat 32 (c.toNat / 2 ^ m)).toNat:Nat):=by
 have a:c.toNat / 2 ^ m<=c.toNat:=CL _ _;have b:=c.toNat_lt;rw[CA,Bh Z];simp
theorem JBV (z:BitVec 32) (c:UInt8) (m:Nat) :
 (bits BinOp.and IntKind.u32 (bits BinOp.xor IntKind.u32 (z.toNat:Nat) (((c.toNat:Nat):Int) % 4294967296 / 2 ^ m)) 1 == 1)=decide ((z ^^^ BitVec.ofNat 32 (c.toNat / 2 ^ m)) &&& 1#32=1#32):=by
 have a:=c.toNat_lt;rw[show ((c.toNat:Nat):Int) % 4294967296=(c.toNat:Nat) from Z,VBp,VAJ,show (1:Int)=((1#32:BitVec 32).toNat:Nat) from rq,JBL];rw[Bg,CO,Ar];rw[Int.natCast_inj,BitVec.toNat_inj]
theorem KAJ (x:BitVec 32):((x.toNat:Nat):Int) / (2:Int)=((x >>> 1).toNat:Nat):=by
 rw[BitVec.toNat_ushiftRight,Nat.shiftRight_eq_div_pow];omega
theorem KAd (x:BitVec 32):bits BinOp.xor IntKind.u32 (((x.toNat:Nat):Int) / 2) 2197175160=(((x >>> 1) ^^^ 0x82F63B78#32).toNat:Nat):=by
 rw[KAJ,show (2197175160:Int)=((0x82F63B78#32:BitVec 32).toNat:Nat) from rq,VAJ]
theorem QBd (x:BitVec 32) {A:Option Addr} {n:Nat} (c:Nat) (bs:List UInt8) {w:World} (e:Rd w A n (bys bs)) (D:n<=9223372036854775807) :
 cq 435 #[.int .u32 (x.toNat:Nat),.slice A n c] w (.int .u32 ((ZQ x bs).toNat:Nat)):=by
 have f:bs.length=n:=uq e.1;have g:=JB f;clear f;go_enter func435,ntmps435
 go_wp2
 go_loop [0,11] (fun v i=>∃ k:Nat,k<=n/\i=.int .i64 k/\v=.int .u32 ((ZQ x (bs.take k)).toNat:Nat)) (fun _ i=>n-(intOf i).toNat)
 case atStart=>exact⟨0,AS _,rfl,rfl⟩
 obtain⟨k,E,rfl,rfl⟩:=hrel;by_cases h:k<n
 . obtain⟨b,o,u,rfl,j,a,B⟩:=e.at_ h
   have l:k<bs.length:=by rw[JA g];exact h
   rw[Yr _ _ l,Ae] at j;subst j;have p:ZQ x (bs.take (k+1))=VX (ZQ x (bs.take k)) bs[k] 8:=by rw[AO l,JAC]
   have C:=JB p;clear p;generalize ZQ x (bs.take k)=y at *;generalize bs[k]=cc at *;unfold by8 at B
   go_wp2
   go_loop [0,7,8,15] (fun v _ _ i=>∃ m:Nat,m<=8/\i=.int .i64 m/\v=.int .u32 ((VX y cc m).toNat:Nat)) (fun _ _ _ i=>8-(intOf i).toNat)
   case atStart=>exact⟨0,AS _,rfl,rfl⟩
   obtain⟨m,F,rfl,rfl⟩:=hrel;by_cases G:m<8
   . have r:=Kt y cc m
     have s:=JB r;clear r;generalize VX y cc m=z at *;have t:=JBV z cc m;by_cases a:(z ^^^ BitVec.ofNat 32 (cc.toNat / 2 ^ m)) &&& 1#32=1#32
     . rw[AJ a] at t
       have d:=JB a;clear a
       go_wp2
       go_round;case rel=>exact⟨m+1,Z,by go_num,by rw[JA s,XAI,AP (JA d),KAd]⟩
       case measure=>simp[intOf];omega
     rw[AX a] at t;have d:=JB a;clear a
     go_wp2
     go_round;case rel=>exact⟨m+1,Z,by go_num,by rw[JA s,XAI,AL (JA d),KAJ]⟩
     case measure=>simp[intOf];omega
   obtain rfl:m=8:=Z
   go_wp2
   go_round;case rel=>exact⟨k+1,Z,by go_num,by rw[JA C]⟩
   case measure=>simp[intOf];omega
 obtain rfl:k=n:=Z
 go_wp2
 go_ret;exact⟨VL (by rw[AH (Ap (JA g))]),rfl⟩