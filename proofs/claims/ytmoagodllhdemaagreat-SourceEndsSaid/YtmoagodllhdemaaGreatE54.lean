/-
  A part of the proof: lemmas, and contracts of functions; their conditions stand in them.
-/
import Derived.Test.YtmoagodllhdemaaGreatE52
import Derived.Test.YtmoagodllhdemaaGreatE53
namespace Go.Proofs.YtmoagodllhdemaaGreat
set_option linter.unusedSimpArgs false
set_option linter.unusedVariables false
section
open Go.ChangeShapes Go.WideShapes Go.ChangeAt Go.RowKit Go.Deep
theorem KAa {H:Type} {enc:TypeId×Value→H} {W:World} {base:Nat} {spare:Nat→Bool} {held:Bool} {a0:Option Addr} {len0 cap0:Nat} {d:DataW H} {ps:List MemPlace} (h0:DataW.Trod enc Tryz.prog W base spare held 75 (.slice a0 len0 cap0) d ps) :
 ∃ zs,Rd W a0 len0 (KP zs)∧len0≤9223372036854775807:=by
 obtain ⟨fuel,hf⟩:=h0
 rcases open_ints Tryz.underlying75 Tryz.underlying3 (by kernel_rfl) hf with ⟨hcs,_⟩ | ⟨x,l,c,zs,hcs,_,hl,hm,hz,_,hcell,hwz⟩
 · simp [Value.cells] at hcs
   obtain ⟨rfl,rfl,rfl⟩:=hcs
   exact ⟨[],Rd.nil _ _,by omega⟩
 · simp [Value.cells] at hcs
   obtain ⟨rfl,rfl,rfl⟩:=hcs
   exact ⟨zs.take len0,YAw (.inr ⟨_,rfl,by rw [hz];split <;> omega,hcell⟩),by simpa [maxLen] using Nat.le_trans hl hm⟩
end
end Go.Proofs.YtmoagodllhdemaaGreat
