/- Lemmas of the proof, with their conditions. -/
import Derived.Test.YthgphmfipnjllaaGreatV15
import Derived.Test.YthgphmfipnjllaaGreatV19
namespace Go.Proofs.YthgphmfipnjllaaGreat
set_option linter.unusedSimpArgs false
set_option linter.unusedVariables false
section
open Go.RowKit Go.Shelf
attribute [local go_sem] Oper.semAt_some
theorem cells14 {w:World} {g:Nat} {t:TypeId} {x0 x1 x2 x3 x4 x5 x6 x7 x8 x9 x10 x11 x12 x13:Value} (h:Blk w g t #[x0,x1,x2,x3,x4,x5,x6,x7,x8,x9,x10,x11,x12,x13]) :
 w.cell? ⟨g,0,none⟩=some x0∧w.cell? ⟨g,1,none⟩=some x1∧w.cell? ⟨g,2,none⟩=some x2∧w.cell? ⟨g,3,none⟩=some x3∧w.cell? ⟨g,4,none⟩=some x4∧w.cell? ⟨g,5,none⟩=some x5∧w.cell? ⟨g,6,none⟩=some x6∧w.cell? ⟨g,7,none⟩=some x7∧w.cell? ⟨g,8,none⟩=some x8∧w.cell? ⟨g,9,none⟩=some x9∧w.cell? ⟨g,10,none⟩=some x10∧w.cell? ⟨g,11,none⟩=some x11∧w.cell? ⟨g,12,none⟩=some x12∧w.cell? ⟨g,13,none⟩=some x13:=
 ⟨by simpa using h.cell 0,by simpa using h.cell 1,by simpa using h.cell 2,by simpa using h.cell 3,by simpa using h.cell 4,by simpa using h.cell 5,by simpa using h.cell 6,by simpa using h.cell 7,by simpa using h.cell 8,by simpa using h.cell 9,by simpa using h.cell 10,by simpa using h.cell 11,by simpa using h.cell 12,by simpa using h.cell 13⟩
theorem cells5 {w:World} {g:Nat} {t:TypeId} {x0 x1 x2 x3 x4:Value} (h:Blk w g t #[x0,x1,x2,x3,x4]) :
 w.cell? ⟨g,0,none⟩=some x0∧w.cell? ⟨g,1,none⟩=some x1∧w.cell? ⟨g,2,none⟩=some x2∧w.cell? ⟨g,3,none⟩=some x3∧w.cell? ⟨g,4,none⟩=some x4:=
 ⟨by simpa using h.cell 0,by simpa using h.cell 1,by simpa using h.cell 2,by simpa using h.cell 3,by simpa using h.cell 4⟩
theorem Blk.new1 (w:World) (o:Obj) (t:TypeId) (cs:Array Value):Blk ((w.alloc o).alloc (.cells cs t)) (w.heap.size+1) t cs:=by
 have h:=Blk.new (w.alloc o) t cs
 rwa [World.size_alloc] at h
end
section
open Go.RowKit Go.Shelf
attribute [local go_sem] Oper.semAt_some
theorem JAV (n:Nat) (v:Value) (w:World) (hv:v.oneCell'=true) :
 CallsIn Fence.wide n Tryz.prog 284 #[v] w fun e w'=>e=.returned (.func (.func 338) #[] #[.pointer (some ⟨w.heap.size,0,none⟩)])∧w'=w.alloc (.cells #[v] 233):=by
 refine(callsIn_wide (n:=n)).2 ?_
 go_enter Tryz.func284,Tryz.ntmps284
 go_wp2
 go_ret
 exact⟨rfl,rfl⟩
end
end Go.Proofs.YthgphmfipnjllaaGreat
