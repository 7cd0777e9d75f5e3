/- Lemmas of the proof, with their conditions. -/
import Derived.Test.YthgphmfipnjllaaGreatV01
namespace Go.Proofs.YthgphmfipnjllaaGreat
set_option linter.unusedSimpArgs false
set_option linter.unusedVariables false
set_option maxHeartbeats 1000000
section
open Go.RowKit
def Qr (x c:BitVec 32):BitVec 32:=if (x ^^^ c) &&& 1#32=1#32 then (x >>> 1) ^^^ 0x82F63B78#32 else x >>> 1
def JO (x:BitVec 32) (c:UInt8) (n:Nat):BitVec 32:=(List.range n).foldl (fun x i=>Qr x (BitVec.ofNat 32 (c.toNat / 2 ^ i))) x
theorem Vh (x:BitVec 32) (c:UInt8) (n:Nat):JO x c (n+1)=Qr (JO x c n) (BitVec.ofNat 32 (c.toNat / 2 ^ n)):=by
 simp[JO,List.range_succ]
def QL (x:BitVec 32) (bs:List UInt8):BitVec 32:=bs.foldl (fun x c=>JO x c 8) x
theorem Kn (x:BitVec 32) (bs:List UInt8) (c:UInt8):QL x (bs++[c])=JO (QL x bs) c 8:=by simp[QL]
theorem Yt (x:BitVec 32) (a b:List UInt8):QL x (a++b)=QL (QL x a) b:=by simp[QL]
theorem Jb (x:BitVec 32):BitVec.ofInt 32 ((x.toNat:Nat):Int)=x:=by
 rw[BitVec.ofInt_natCast,BitVec.ofNat_toNat,BitVec.setWidth_eq]
theorem wrap_u32 (x:BitVec 32):IntKind.u32.wrap ((x.toNat:Nat):Int)=(x.toNat:Nat):=by
 have:=x.isLt
 rw[IntKind.wrap_u32];omega
theorem Yu (x y:BitVec 32):bits BinOp.xor IntKind.u32 (x.toNat:Nat) (y.toNat:Nat)=((x ^^^ y).toNat:Nat):=by
 show IntKind.u32.wrap ((BitVec.ofInt 32 ((x.toNat:Nat):Int) ^^^ BitVec.ofInt 32 ((y.toNat:Nat):Int)).toNat:Int)=_
 rw[Jb,Jb,wrap_u32]
theorem YAd (x y:BitVec 32):bits BinOp.and IntKind.u32 (x.toNat:Nat) (y.toNat:Nat)=((x &&& y).toNat:Nat):=by
 show IntKind.u32.wrap ((BitVec.ofInt 32 ((x.toNat:Nat):Int) &&& BitVec.ofInt 32 ((y.toNat:Nat):Int)).toNat:Int)=_
 rw[Jb,Jb,wrap_u32]
theorem QBB (c:UInt8) (m:Nat):((c.toNat:Nat):Int) / 2 ^ m=((BitVec.ofNat 32 (c.toNat / 2 ^ m)).toNat:Nat):=by
 have h1:c.toNat / 2 ^ m≤c.toNat:=Nat.div_le_self _ _
 have h2:=c.toNat_lt
 rw[BitVec.toNat_ofNat,Nat.mod_eq_of_lt (by omega)]
 simp
theorem QAp (z:BitVec 32) (c:UInt8) (m:Nat) :
 (bits BinOp.and IntKind.u32 (bits BinOp.xor IntKind.u32 (z.toNat:Nat) (((c.toNat:Nat):Int) % 4294967296 / 2 ^ m)) 1 == 1)=decide ((z ^^^ BitVec.ofNat 32 (c.toNat / 2 ^ m)) &&& 1#32=1#32):=by
 have h2:=c.toNat_lt
 rw[show ((c.toNat:Nat):Int) % 4294967296=(c.toNat:Nat) by omega,QBB,Yu,show (1:Int)=((1#32:BitVec 32).toNat:Nat) by rfl,YAd]
 rw[Bool.eq_iff_iff,beq_iff_eq,decide_eq_true_eq]
 rw[Int.natCast_inj,BitVec.toNat_inj]
theorem Qv (x:BitVec 32):((x.toNat:Nat):Int) / (2:Int)=((x >>> 1).toNat:Nat):=by
 rw[BitVec.toNat_ushiftRight,Nat.shiftRight_eq_div_pow]
 omega
theorem XAH (x:BitVec 32):bits BinOp.xor IntKind.u32 (((x.toNat:Nat):Int) / 2) 2197175160=(((x >>> 1) ^^^ 0x82F63B78#32).toNat:Nat):=by
 rw[Qv,show (2197175160:Int)=((0x82F63B78#32:BitVec 32).toNat:Nat) by rfl,Yu]
theorem JAv (x:BitVec 32) (A:Option Addr) (n c:Nat) (bs:List UInt8) (w:World) (ha:Rd w A n (bys bs)) (hn:n≤9223372036854775807) :
 Calls Tryz.prog 376 #[.int .u32 (x.toNat:Nat),.slice A n c] w fun e w'=>e=.returned (.int .u32 ((QL x bs).toNat:Nat))∧w=w':=by
 have hl:bs.length=n:=by simpa using ha.1
 have HL:=ZB hl
 clear hl
 go_enter Tryz.func376,Tryz.ntmps376
 go_wp2
 go_loop [0,11] (fun v i=>∃ k:Nat,k≤n∧i=.int .i64 k∧v=.int .u32 ((QL x (bs.take k)).toNat:Nat)) (fun _ i=>n-(intOf i).toNat)
 case atStart=>exact⟨0,Nat.zero_le _,rfl,rfl⟩
 case round=>
  obtain⟨k,hk,rfl,rfl⟩:=hrel
  by_cases hlt:k<n
  · obtain⟨b,o,u,rfl,hx,hb,hc⟩:=ha.at_ hlt
    have hbk:k<bs.length:=by rw[QA HL];exact hlt
    rw[Xv _ _ hbk,Option.some.injEq] at hx
    subst hx
    have hsn:QL x (bs.take (k+1))=JO (QL x (bs.take k)) bs[k] 8:=by rw[List.take_succ_eq_append_getElem hbk,Kn]
    have HS:=ZB hsn
    clear hsn
    generalize QL x (bs.take k)=y at *
    generalize bs[k]=cc at *
    unfold by8 at hc
    go_wp2
    go_loop [0,7,8,15] (fun v _ _ i=>∃ m:Nat,m≤8∧i=.int .i64 m∧v=.int .u32 ((JO y cc m).toNat:Nat)) (fun _ _ _ i=>8-(intOf i).toNat)
    case atStart=>exact⟨0,Nat.zero_le _,rfl,rfl⟩
    case round=>
     obtain⟨m,hm,rfl,rfl⟩:=hrel
     by_cases hm8:m<8
     · have hs2:=Vh y cc m
       have HS2:=ZB hs2
       clear hs2
       generalize JO y cc m=z at *
       have hT:=QAp z cc m
       by_cases hb:(z ^^^ BitVec.ofNat 32 (cc.toNat / 2 ^ m)) &&& 1#32=1#32
       · rw[decide_eq_true hb] at hT
         have HB:=ZB hb
         clear hb
         go_wp2
         go_round
         case rel=>exact⟨m+1,by omega,by go_num,by rw[QA HS2,Qr,if_pos (QA HB),XAH]⟩
         case measure=>simp[intOf];omega
       · rw[decide_eq_false hb] at hT
         have HB:=ZB hb
         clear hb
         go_wp2
         go_round
         case rel=>exact⟨m+1,by omega,by go_num,by rw[QA HS2,Qr,if_neg (QA HB),Qv]⟩
         case measure=>simp[intOf];omega
     · obtain rfl:m=8:=by omega
       go_wp2
       go_round
       case rel=>exact⟨k+1,by omega,by go_num,by rw[QA HS]⟩
       case measure=>simp[intOf];omega
  · obtain rfl:k=n:=by omega
    go_wp2
    go_ret
    exact⟨VI (by rw[List.take_of_length_le (Nat.le_of_eq (QA HL))]),rfl⟩
end
end Go.Proofs.YthgphmfipnjllaaGreat
