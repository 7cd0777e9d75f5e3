/-
  A part of the proof: lemmas, and contracts of functions; their conditions stand in them.
-/
import Derived.Test.YtmoagodllhdemaaGreatE35
import Derived.Test.YtmoagodllhdemaaGreatE40
namespace Go.Proofs.YtmoagodllhdemaaGreat
set_option linter.unusedSimpArgs false
set_option linter.unusedVariables false
section
open Go.RowKit
def sOp (zs:List Int) (j:Nat):POp:=(QK (zs.getD j 0) j (VD zs j).2).1
theorem VV (zs:List Int) (n:Nat):(VD zs n).1=(List.range n).map (sOp zs):=by
 induction n with
 | zero=>rfl
 | succ n ih=>
   rw [List.range_succ,List.map_append,← ih]
   rfl
theorem VAL (zs:List Int) {j:Nat} (hj:j≤1000000):∃ k b c e xs,OpIs 12 (sOp zs) j k b c e xs:=by
 have he:=QZ zs j
 have h1:=Int.emod_nonneg (zs.getD j 0) (show (10:Int)≠0 by omega)
 have h2:=Int.emod_lt_of_pos (zs.getD j 0) (show (0:Int)<10 by omega)
 have hs:sOp zs j=(QK (zs.getD j 0) j (VD zs j).2).1:=rfl
 unfold QK at hs
 split at hs
 · exact ⟨3,0,0,(VD zs j).2+1,[],⟨by rw [hs];simp,.inr (.inr ⟨rfl,rfl,rfl,by omega,by omega,rfl⟩),.inr rfl,.inr (.inr ⟨rfl,by simp only;omega,by simp only;omega⟩)⟩⟩
 · split at hs
   · exact ⟨2,(zs.getD j 0 % 10).toNat,2,0,[],⟨by rw [hs];simp only [POp.mk.injEq,and_true];refine ⟨rfl,?_,rfl,rfl⟩;omega,.inr (.inl ⟨rfl,by omega,by omega,by omega,rfl,rfl⟩),.inl (by omega),.inr (.inl ⟨rfl,by simp only;omega,by simp only;omega,by simp only;omega⟩)⟩⟩
   · exact ⟨1,(zs.getD j 0 % 10).toNat,0,0,KL (j:Nat),⟨by rw [hs];simp only [POp.mk.injEq,and_true];refine ⟨rfl,?_,rfl,rfl⟩;omega,.inl ⟨rfl,by omega,rfl,rfl,by simp⟩,.inl (by omega),.inl ⟨rfl,by simp only;omega,by simp only;omega,by simp⟩⟩⟩
theorem JAL (zs:List Int) (j:Nat):(idl 12 (sOp zs) j).ep=(VD zs j).2:=by
 induction j with
 | zero=>rfl
 | succ j ih=>
   have hs:sOp zs j=(QK (zs.getD j 0) j (VD zs j).2).1:=rfl
   simp only [idl,PIdl.step,VD]
   unfold QK at hs ⊢
   split at hs
   · rename_i h0
     rw [if_pos h0,hs,if_neg (by simp),if_neg (by simp)]
     simp only [ih]
   · rename_i h0
     rw [if_neg h0]
     split at hs
     · rename_i h1
       rw [if_pos h1,hs,if_neg (by simp),if_pos (by simp)]
       exact ih
     · rename_i h1
       rw [if_neg h1,hs,if_pos (by simp)]
       exact ih
theorem KAU (zs:List Int) {len:Nat} (hl:len≤1000000):KAl 12 (sOp zs) len:=by
 intro j hj
 obtain ⟨k,b,c,e,xs,h⟩:=VAL zs (j:=j) (by omega)
 refine ⟨by rw [h.op];exact h.for_,fun hk=>?_⟩
 rw [JAL]
 have hs:sOp zs j=(QK (zs.getD j 0) j (VD zs j).2).1:=rfl
 unfold QK at hs
 split at hs
 · rw [hs]
 · split at hs <;> rw [hs] at hk <;> simp at hk
theorem XAd (B:Nat) (ops:Nat→POp) (j d:Nat):(idl B ops j).ep≤(idl B ops (j+d)).ep∧((idl B ops j).ep=(idl B ops (j+d)).ep→(idl B ops j).base=(idl B ops (j+d)).base):=by
 induction d with
 | zero=>exact ⟨Nat.le_refl _,fun _=>rfl⟩
 | succ d ih=>
   obtain ⟨h1,h2⟩:=ih
   have hstep:(idl B ops (j+(d+1)))=(idl B ops (j+d)).step (ops (j+d)):=rfl
   rw [hstep]
   simp only [PIdl.step]
   split
   · exact ⟨h1,h2⟩
   · split
     · exact ⟨h1,h2⟩
     · exact ⟨by simp only;omega,fun h=>by simp only at h;omega⟩
theorem QAM {B j len:Nat} {ops:Nat→POp} (hj:j≤len) (h:j=len∨(idl B ops len).ep≤(idl B ops j).ep):(idl B ops j).base=(idl B ops len).base:=by
 obtain ⟨d,rfl⟩:∃ d,len=j+d:=⟨len-j,by omega⟩
 obtain ⟨h1,h2⟩:=XAd B ops j d
 rcases h with h | h
 · rw [← h]
 · exact h2 (by omega)
theorem Jd (B:Nat) (ops:Nat→POp) (j:Nat):(idl B ops j).done≤j∧(idl B ops j).done≤(idl B ops (j+1)).done:=by
 induction j with
 | zero=>exact ⟨Nat.le_refl _,Nat.zero_le _⟩
 | succ j ih=>
   have hq:=Zh B ops j
   have hq1:=Zh B ops (j+1)
   have h1:(idl B ops (j+1)).done≤j+1:=by
    simp only [idl,PIdl.step]
    split
    · simp only;omega
    · split <;> simp only <;> omega
   refine ⟨h1,?_⟩
   show _≤((idl B ops (j+1)).step (ops (j+1))).done
   simp only [PIdl.step]
   split
   · exact Nat.le_refl _
   · split
     · exact Nat.le_refl _
     · simp only;omega
theorem VAC {size acked done len:Nat} {ops:Nat→POp} {l:List POp} (hl:l=((List.range len).map ops).drop done) (hd:done≤acked) (ha:acked≤len) :
 KH 1 acked size (done+1) l=(List.range (min size (len-acked))).map (fun k=>frB 1 (acked+1+k) (ops (acked+k))):=by
 rw [Vc 1 acked size (done+1) l (by omega),hl,List.drop_drop,show done+(acked+1-(done+1))=acked by omega,Yc 1 acked size (acked+1) _ (by omega) (by omega)]
 have hlen:(((List.range len).map ops).drop acked).length=len-acked:=by simp
 rw [hlen,show acked+size+1-(acked+1)=size by omega]
 refine List.map_congr_left fun k hk=>?_
 have hk':k<min size (len-acked):=by simpa using hk
 have:(((List.range len).map ops).drop acked).getD k ⟨0,0,0,0,[]⟩=ops (acked+k):=by
  rw [List.getD_eq_getElem?_getD,List.getElem?_drop,List.getElem?_map,List.getElem?_range (by omega)]
  rfl
 rw [this]
end
end Go.Proofs.YtmoagodllhdemaaGreat
