/- Lemmas of the proof, with their conditions. -/
import Derived.Test.YtfedaknhecbehaaGreatM01
namespace Go.Proofs.YtfedaknhecbehaaGreat
open Tryz Go.RowKit
set_option linter.all false
set_option maxHeartbeats 1000000
def XX (x c:BitVec 32):BitVec 32:=if (x ^^^ c) &&& 1#32=1#32 then (x >>> 1) ^^^ 0x82F63B78#32 else x >>> 1
def XN (x:BitVec 32) (c:UInt8) (n:Nat):BitVec 32:=(List.range n).foldl (fun x i=>XX x (BitVec.ofNat 32 (c.toNat / 2 ^ i))) x
theorem QM (x:BitVec 32) (c:UInt8) (n:Nat):XN x c (n+1)=XX (XN x c n) (BitVec.ofNat 32 (c.toNat / 2 ^ n)):=by
 simp[XN,Bq]
def VN (x:BitVec 32) (bs:List UInt8):BitVec 32:=bs.foldl (fun x c=>XN x c 8) x
theorem Qz (x:BitVec 32) (bs:List UInt8) (c:UInt8):VN x (bs++[c])=XN (VN x bs) c 8:=by simp[VN]
theorem Vc (x:BitVec 32) (a b:List UInt8):VN x (a++b)=VN (VN x a) b:=by simp[VN]
theorem Vm (x:BitVec 32):BitVec.ofInt 32 ((x.toNat:Nat):Int)=x:=by
 rw[B1,BitVec.ofNat_toNat,BitVec.setWidth_eq]
theorem wrap_u32 (x:BitVec 32):IntKind.u32.wrap ((x.toNat:Nat):Int)=(x.toNat:Nat):=by
 have:=x.isLt;rw[IntKind.wrap_u32];omega
theorem QAH (x y:BitVec 32):bits BinOp.xor IntKind.u32 (x.toNat:Nat) (y.toNat:Nat)=((x ^^^ y).toNat:Nat):=by
 show IntKind.u32.wrap ((BitVec.ofInt 32 ((x.toNat:Nat):Int) ^^^ BitVec.ofInt 32 ((y.toNat:Nat):Int)).toNat:Int)=_;rw[Vm,Vm,wrap_u32]
theorem KAs (x y:BitVec 32):bits BinOp.and IntKind.u32 (x.toNat:Nat) (y.toNat:Nat)=((x &&& y).toNat:Nat):=by
 show IntKind.u32.wrap ((BitVec.ofInt 32 ((x.toNat:Nat):Int) &&& BitVec.ofInt 32 ((y.toNat:Nat):Int)).toNat:Int)=_;rw[Vm,Vm,wrap_u32]
theorem KBi (c:UInt8) (m:Nat):((c.toNat:Nat):Int) / 2 ^ m=((BitVec.ofNat 32 (c.toNat / 2 ^ m)).toNat:Nat):=by
 have a:c.toNat / 2 ^ m<=c.toNat:=CY _ _;have b:=c.toNat_lt;rw[Bn,BO Z];simp
theorem XBM (z:BitVec 32) (c:UInt8) (m:Nat) :
 (bits BinOp.and IntKind.u32 (bits BinOp.xor IntKind.u32 (z.toNat:Nat) (((c.toNat:Nat):Int) % 4294967296 / 2 ^ m)) 1 == 1)=decide ((z ^^^ BitVec.ofNat 32 (c.toNat / 2 ^ m)) &&& 1#32=1#32):=by
 have a:=c.toNat_lt;rw[show ((c.toNat:Nat):Int) % 4294967296=(c.toNat:Nat) from Z,KBi,QAH,show (1:Int)=((1#32:BitVec 32).toNat:Nat) from rq,KAs];rw[Bh,CK,AY];rw[Int.natCast_inj,Dp]
theorem QAI (x:BitVec 32):((x.toNat:Nat):Int) / (2:Int)=((x >>> 1).toNat:Nat):=by
 rw[BitVec.toNat_ushiftRight,Nat.shiftRight_eq_div_pow];omega
theorem ZAa (x:BitVec 32):bits BinOp.xor IntKind.u32 (((x.toNat:Nat):Int) / 2) 2197175160=(((x >>> 1) ^^^ 0x82F63B78#32).toNat:Nat):=by
 rw[QAI,show (2197175160:Int)=((0x82F63B78#32:BitVec 32).toNat:Nat) from rq,QAH]
theorem VBe (x:BitVec 32) {A:Option Addr} {n:Nat} (c:Nat) (bs:List UInt8) {w:World} (e:Rd w A n (bys bs)) (C:n<=9223372036854775807) :
 cq 435 #[.int .u32 (x.toNat:Nat),.slice A n c] w (.int .u32 ((VN x bs).toNat:Nat)):=by
 have f:bs.length=n:=uq e.1
 have g:=ZB f;clear f;go_enter func435,ntmps435
 go_wp2
 go_loop [0,11] (fun v i=>∃ k:Nat,k<=n/\i=.int .i64 k/\v=.int .u32 ((VN x (bs.take k)).toNat:Nat)) (fun _ i=>n-(intOf i).toNat)
 case atStart=>exact⟨0,AP _,rfl,rfl⟩
 obtain⟨k,D,rfl,rfl⟩:=hrel;by_cases h:k<n
 . obtain⟨b,o,u,rfl,j,a,t⟩:=e.at_ h
   have l:k<bs.length:=by rw[ZA g];exact h
   rw[Yn _ _ l,Ab] at j;subst j;have p:VN x (bs.take (k+1))=XN (VN x (bs.take k)) bs[k] 8:=by rw[AO l,Qz]
   have B:=ZB p;clear p;generalize VN x (bs.take k)=y at *;generalize bs[k]=cc at *;unfold by8 at t
   go_wp2
   go_loop [0,7,8,15] (fun v _ _ i=>∃ m:Nat,m<=8/\i=.int .i64 m/\v=.int .u32 ((XN y cc m).toNat:Nat)) (fun _ _ _ i=>8-(intOf i).toNat)
   case atStart=>exact⟨0,AP _,rfl,rfl⟩
   obtain⟨m,E,rfl,rfl⟩:=hrel;by_cases F:m<8
   . have q:=QM y cc m
     have r:=ZB q;clear q;generalize XN y cc m=z at *;have s:=XBM z cc m;by_cases a:(z ^^^ BitVec.ofNat 32 (cc.toNat / 2 ^ m)) &&& 1#32=1#32
     . rw[AH a] at s
       have d:=ZB a;clear a
       go_wp2
       go_round;case rel=>exact⟨m+1,Z,by go_num,by rw[ZA r,XX,AJ (ZA d),ZAa]⟩
       case measure=>simp[intOf];omega
     rw[AU a] at s
     have d:=ZB a;clear a
     go_wp2
     go_round;case rel=>exact⟨m+1,Z,by go_num,by rw[ZA r,XX,AF (ZA d),QAI]⟩
     case measure=>simp[intOf];omega
   obtain rfl:m=8:=Z
   go_wp2
   go_round;case rel=>exact⟨k+1,Z,by go_num,by rw[ZA B]⟩
   case measure=>simp[intOf];omega
 obtain rfl:k=n:=Z
 go_wp2
 go_ret;exact⟨JL (by rw[AK (Ar (ZA g))]),rfl⟩