/-
  A part of the proof: lemmas, and contracts of functions; their conditions stand in them.
-/
import Derived.Test.YtmoagodllhdemaaGreatE01
import Derived.Outline
namespace Go.Proofs.YtmoagodllhdemaaGreat
set_option linter.unusedSimpArgs false
set_option linter.unusedVariables false
set_option maxHeartbeats 1000000
section
open Go.RowKit
def Zl (x c:BitVec 32):BitVec 32:=if (x ^^^ c) &&& 1#32=1#32 then (x >>> 1) ^^^ 0x82F63B78#32 else x >>> 1
def QO (x:BitVec 32) (c:UInt8) (n:Nat):BitVec 32:=(List.range n).foldl (fun x i=>Zl x (BitVec.ofNat 32 (c.toNat / 2 ^ i))) x
theorem Jc (x:BitVec 32) (c:UInt8) (n:Nat):QO x c (n+1)=Zl (QO x c n) (BitVec.ofNat 32 (c.toNat / 2 ^ n)):=by
 simp [QO,List.range_succ]
def YK (x:BitVec 32) (bs:List UInt8):BitVec 32:=bs.foldl (fun x c=>QO x c 8) x
theorem Qg (x:BitVec 32) (bs:List UInt8) (c:UInt8):YK x (bs++[c])=QO (YK x bs) c 8:=by simp [YK]
theorem Xo (x:BitVec 32) (a b:List UInt8):YK x (a++b)=YK (YK x a) b:=by simp [YK]
theorem YX (x:BitVec 32):BitVec.ofInt 32 ((x.toNat:Nat):Int)=x:=by
 rw [BitVec.ofInt_natCast,BitVec.ofNat_toNat,BitVec.setWidth_eq]
theorem wrap_u32 (x:BitVec 32):IntKind.u32.wrap ((x.toNat:Nat):Int)=(x.toNat:Nat):=by
 have:=x.isLt
 rw [IntKind.wrap_u32];omega
theorem Xn (x y:BitVec 32):bits BinOp.xor IntKind.u32 (x.toNat:Nat) (y.toNat:Nat)=((x ^^^ y).toNat:Nat):=by
 show IntKind.u32.wrap ((BitVec.ofInt 32 ((x.toNat:Nat):Int) ^^^ BitVec.ofInt 32 ((y.toNat:Nat):Int)).toNat:Int)=_
 rw [YX,YX,wrap_u32]
theorem YAW (x y:BitVec 32):bits BinOp.and IntKind.u32 (x.toNat:Nat) (y.toNat:Nat)=((x &&& y).toNat:Nat):=by
 show IntKind.u32.wrap ((BitVec.ofInt 32 ((x.toNat:Nat):Int) &&& BitVec.ofInt 32 ((y.toNat:Nat):Int)).toNat:Int)=_
 rw [YX,YX,wrap_u32]
theorem KAt (c:UInt8) (m:Nat):((c.toNat:Nat):Int) / 2 ^ m=((BitVec.ofNat 32 (c.toNat / 2 ^ m)).toNat:Nat):=by
 have h1:c.toNat / 2 ^ m≤c.toNat:=Nat.div_le_self _ _
 have h2:=c.toNat_lt
 rw [BitVec.toNat_ofNat,Nat.mod_eq_of_lt (by omega)]
 simp
theorem QAb (z:BitVec 32) (c:UInt8) (m:Nat) :
 (bits BinOp.and IntKind.u32 (bits BinOp.xor IntKind.u32 (z.toNat:Nat) (((c.toNat:Nat):Int) % 4294967296 / 2 ^ m)) 1 == 1)=decide ((z ^^^ BitVec.ofNat 32 (c.toNat / 2 ^ m)) &&& 1#32=1#32):=by
 have h2:=c.toNat_lt
 rw [show ((c.toNat:Nat):Int) % 4294967296=(c.toNat:Nat) by omega,KAt,Xn,show (1:Int)=((1#32:BitVec 32).toNat:Nat) by rfl,YAW]
 rw [Bool.eq_iff_iff,beq_iff_eq,decide_eq_true_eq]
 rw [Int.natCast_inj,BitVec.toNat_inj]
theorem Jp (x:BitVec 32):((x.toNat:Nat):Int) / (2:Int)=((x >>> 1).toNat:Nat):=by
 rw [BitVec.toNat_ushiftRight,Nat.shiftRight_eq_div_pow]
 omega
theorem QAD (x:BitVec 32):bits BinOp.xor IntKind.u32 (((x.toNat:Nat):Int) / 2) 2197175160=(((x >>> 1) ^^^ 0x82F63B78#32).toNat:Nat):=by
 rw [Jp,show (2197175160:Int)=((0x82F63B78#32:BitVec 32).toNat:Nat) by rfl,Xn]
theorem YAj (x:BitVec 32) (A:Option Addr) (n c:Nat) (bs:List UInt8) (w:World) (ha:Rd w A n (bys bs)) (hn:n≤9223372036854775807) :
 Calls Tryz.prog 283 #[.int .u32 (x.toNat:Nat),.slice A n c] w fun e w'=>e = .returned (.int .u32 ((YK x bs).toNat:Nat))∧w=w':=by
 have hl:bs.length=n:=by simpa using ha.1
 have HL:=JC hl
 clear hl
 go_enter Tryz.func283,Tryz.ntmps283
 go_wp2
 go_loop [0,11] (fun v i=>∃ k:Nat,k≤n∧i = .int .i64 k∧v = .int .u32 ((YK x (bs.take k)).toNat:Nat)) (fun _ i=>n-(intOf i).toNat)
 case atStart=>exact ⟨0,Nat.zero_le _,rfl,rfl⟩
 case round=>
  obtain ⟨k,hk,rfl,rfl⟩:=hrel
  by_cases hlt:k<n
  · obtain ⟨b,o,u,rfl,hx,hb,hc⟩:=ha.at_ hlt
    have hbk:k<bs.length:=by rw [JA HL];exact hlt
    rw [Qb _ _ hbk,Option.some.injEq] at hx
    subst hx
    have hsn:YK x (bs.take (k+1))=QO (YK x (bs.take k)) bs[k] 8:=by rw [List.take_succ_eq_append_getElem hbk,Qg]
    have HS:=JC hsn
    clear hsn
    generalize YK x (bs.take k)=y at *
    generalize bs[k]=cc at *
    unfold by8 at hc
    go_wp2
    go_loop [0,7,8,15] (fun v _ _ i=>∃ m:Nat,m≤8∧i = .int .i64 m∧v = .int .u32 ((QO y cc m).toNat:Nat)) (fun _ _ _ i=>8-(intOf i).toNat)
    case atStart=>exact ⟨0,Nat.zero_le _,rfl,rfl⟩
    case round=>
     obtain ⟨m,hm,rfl,rfl⟩:=hrel
     by_cases hm8:m<8
     · have hs2:=Jc y cc m
       have HS2:=JC hs2
       clear hs2
       generalize QO y cc m=z at *
       have hT:=QAb z cc m
       by_cases hb:(z ^^^ BitVec.ofNat 32 (cc.toNat / 2 ^ m)) &&& 1#32=1#32
       · rw [decide_eq_true hb] at hT
         have HB:=JC hb
         clear hb
         go_wp2
         go_round
         case rel=>exact ⟨m+1,by omega,by go_num,by rw [JA HS2,Zl,if_pos (JA HB),QAD]⟩
         case measure=>simp [intOf];omega
       · rw [decide_eq_false hb] at hT
         have HB:=JC hb
         clear hb
         go_wp2
         go_round
         case rel=>exact ⟨m+1,by omega,by go_num,by rw [JA HS2,Zl,if_neg (JA HB),Jp]⟩
         case measure=>simp [intOf];omega
     · obtain rfl:m=8:=by omega
       go_wp2
       go_round
       case rel=>exact ⟨k+1,by omega,by go_num,by rw [JA HS]⟩
       case measure=>simp [intOf];omega
  · obtain rfl:k=n:=by omega
    go_wp2
    go_ret
    exact ⟨JK (by rw [List.take_of_length_le (Nat.le_of_eq (JA HL))]),rfl⟩
end
end Go.Proofs.YtmoagodllhdemaaGreat
