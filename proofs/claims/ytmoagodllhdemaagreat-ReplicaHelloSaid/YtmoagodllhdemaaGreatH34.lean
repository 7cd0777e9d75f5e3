/-
  A part of the proof: lemmas, and contracts of functions; their conditions stand in them.
-/
import Derived.Test.YtmoagodllhdemaaGreatH33
import Derived.Test.YtmoagodllhdemaaGreatH28
import Derived.Test.YtmoagodllhdemaaGreatH19
import Derived.Test.YtmoagodllhdemaaGreatH08
namespace Go.Proofs.YtmoagodllhdemaaGreat
set_option linter.unusedSimpArgs false
set_option linter.unusedVariables false
set_option maxHeartbeats 4000000
set_option maxRecDepth 100000
section
open Go.RowKit
theorem elemSlot:ElemN Tryz.prog 189 195 (.agg #[.int .i64 0,.int .i64 0,.int .i64 0,.int .i64 0,.slice none 0 0,.bool false]) 6 64:=ElemN.of Tryz.underlying189 (by kernel_rfl) rfl (by omega)
section
variable (w:World) (base x:Nat) (L:Value) (F:List Nat) (next:Nat) (sl:List PSlot) (h:WinIs w base x L F next sl)
include h
theorem ZAl (n:Nat) (hn:n<next) (k b c e:Int) (A:Option Addr) (dl dc:Nat):Calls Tryz.prog 56 #[.pointer (some ⟨x,0,none⟩),.int .i64 (n:Nat),.agg #[.int .i64 k,.int .i64 b,.int .i64 c,.int .i64 e,.slice A dl dc]] w fun r w'=>r = .returned (.int .i64 9)∧Keep [] w w':=by
 have hN:=fun W (hk:Keep [] w W)=>noneW_is W base x L F next sl (h.keep0 hk)
 have hkA:Keep [] w (w.alloc (.cells #[.int .i64 k,.int .i64 b,.int .i64 c,.int .i64 e,.slice A dl dc] 46)):=(Keep.refl _ _).alloc _
 have k1:=(h.keep0 hkA).cells.2
 have hlt:((n:Nat):Int)<(next:Nat):=by omega
 go_enter Tryz.func56,Tryz.ntmps56
 go_wp2_with (refine (hN _ hkA).mono ?_;clear hN;rintro r w' ⟨rfl,rfl⟩)
 go_ret
 exact ⟨rfl,hkA⟩
theorem KAk (n:Nat) (hn:next+sl.length≤n) (hn2:n≤2147483647) (k b c e:Int) (A:Option Addr) (dl dc:Nat):Calls Tryz.prog 56 #[.pointer (some ⟨x,0,none⟩),.int .i64 (n:Nat),.agg #[.int .i64 k,.int .i64 b,.int .i64 c,.int .i64 e,.slice A dl dc]] w fun r w'=>r = .returned (.int .i64 10)∧Keep [] w w':=by
 have hN:=fun W (hk:Keep [] w W)=>noneW_is W base x L F next sl (h.keep0 hk)
 have hkA:Keep [] w (w.alloc (.cells #[.int .i64 k,.int .i64 b,.int .i64 c,.int .i64 e,.slice A dl dc] 46)):=(Keep.refl _ _).alloc _
 obtain ⟨g,lc,hL,hc⟩:=h.form
 obtain ⟨k0,k1⟩:=(h.keep0 hkA).cells
 have hnb:=h.nb
 have hlt:¬ ((n:Nat):Int)<(next:Nat):=by omega
 have hge:((next:Nat):Int)+(sl.length:Nat)≤(n:Nat):=by omega
 rw [hL] at k0
 generalize sl.length=m at *
 clear hn hL h
 go_enter Tryz.func56,Tryz.ntmps56
 go_wp2_with (refine (hN _ hkA).mono ?_;clear hN;rintro r w' ⟨rfl,rfl⟩)
 refine KA (fun w'=>w'.cell? ⟨x,0,none⟩=some (.slice (some ⟨g,0,none⟩) m lc)∧w'.cell? ⟨x,1,none⟩=some (.int .i64 (next:Nat))) 11 [(0,false),(1,false),(2,false),(3,false),(4,false),(5,false),(6,false),(7,false),(8,false),(9,false),(10,false)]
  (by kernel_rfl) (by kernel_rfl) (fun _ _ d _ _ h=>by cases d <;> exact h) ⟨k0,k1⟩ ?_
 simp only [PI]
 iterate 11 (refine XB ?_ (by rfl) ?_ ?_;rotate_left;(focus (rintro W ⟨hW0,hW1⟩;go_simp;try with_reducible rfl));simp only [Act.put,PU])
 refine YC ?_
 go_wp2_with fail
 go_ret
 exact ⟨rfl,hkA.drew⟩
theorem QAz (n:Nat) (hn1:next≤n) (hn:n<next+sl.length) (hn2:n≤2147483647) (hq:(sl.getD (n % sl.length) PSlot.none_).is=false) (k b c e:Int) (A:Option Addr) (dc:Nat) (d:List UInt8) (hd:w.ownsRow base 5 1 (.slice A d.length dc) d.length (bys d)) :
 Calls Tryz.prog 56 #[.pointer (some ⟨x,0,none⟩),.int .i64 (n:Nat),.agg #[.int .i64 k,.int .i64 b,.int .i64 c,.int .i64 e,.slice A d.length dc]] w fun r w'=>r = .returned (.int .i64 0) ∧
  ∃ F',WinIs w' base x L F' next (sl.set (n % sl.length) ⟨.slice A d.length dc,⟨k,b,c,e,d⟩,true⟩)∧Keep F w w'∧∀ z∈F',z∈F∨z∈(Value.slice A d.length dc).ownBlock.toList:=by
 have hN:=fun W (hk:Keep [] w W)=>noneW_is W base x L F next sl (h.keep0 hk)
 have hkA:Keep [] w (w.alloc (.cells #[.int .i64 k,.int .i64 b,.int .i64 c,.int .i64 e,.slice A d.length dc] 46)):=(Keep.refl _ _).alloc _
 have hbO:=Blk.new w 46 #[.int .i64 k,.int .i64 b,.int .i64 c,.int .i64 e,.slice A d.length dc]
 obtain ⟨g,lc,hL,hc⟩:=h.form
 obtain ⟨k0,k1⟩:=(h.keep0 hkA).cells
 have hi:n % sl.length<sl.length:=Nat.mod_lt _ h.pos
 have hA:=fun W (hk:Keep [] w W)=>QAK W base x L F next sl (h.keep0 hk) g lc hL n (by omega)
 have hres:=fun W (hk:Keep [] w W)=>h.setSlot hk g lc hL (n % sl.length) hi ⟨.slice A d.length dc,⟨k,b,c,e,d⟩,true⟩ (YB hd hk) (fun h=>by cases h)
 have hsl:=fun W (hk:Keep [] w W)=>(h.keep0 hk).slot W base x L F next sl g lc hL (n % sl.length) hi
 have hfz:∀ W,Keep [] w W→∀ j,W.frozen? ⟨g,j,none⟩=false:=fun W hk j=>VM (by have:=(h.keep0 hk).row;rw [hL] at this;exact this) j
 have hqi:sl[n % sl.length].is=false:=by rw [List.getD_eq_getElem?_getD,List.getElem?_eq_getElem hi] at hq;exact hq
 have hlt:¬ ((n:Nat):Int)<(next:Nat):=by omega
 have hge:((n:Nat):Int)<((next:Nat):Int)+(sl.length:Nat):=by omega
 rw [hL] at k0
 generalize sl[n % sl.length]=q0 at hsl hqi
 obtain ⟨q0v,q0o,q0i⟩:=q0
 simp only at hsl hqi
 subst hqi
 obtain ⟨i,hi'⟩:∃ i,i=n % sl.length:=⟨_,rfl⟩
 rw [← hi'] at hA hres hsl hi
 have HI:=JC hi'
 obtain ⟨m,hm⟩:∃ m,m=sl.length:=⟨_,rfl⟩
 have hm16:m≤16:=by rw [hm];exact h.few
 have hnb:=h.nb
 rw [← hm] at k0 hge
 have HM:=JC hm
 clear hq hi' hn hm hL h
 go_enter Tryz.func56,Tryz.ntmps56
 go_wp2_with (refine (hN _ hkA).mono ?_;clear hN;rintro r w' ⟨rfl,rfl⟩)
 have hA1:=hA _ hkA.drew
 refine KA (fun w'=>w'.cell? ⟨x,0,none⟩=some (.slice (some ⟨g,0,none⟩) m lc)∧w'.cell? ⟨x,1,none⟩=some (.int .i64 (next:Nat))) 11 [(0,false),(1,false),(2,false),(3,false),(4,false),(5,false),(6,false),(7,false),(8,false),(9,false),(10,false)]
  (by kernel_rfl) (by kernel_rfl) (fun _ _ d _ _ h=>by cases d <;> exact h) ⟨k0,k1⟩ ?_
 simp only [PI]
 iterate 11 (refine XB ?_ (by rfl) ?_ ?_;rotate_left;(focus (rintro W ⟨hW0,hW1⟩;go_simp;try with_reducible rfl));simp only [Act.put,PU])
 refine YC ?_
 go_wp2_with (go_at_call 117
              refine hA1.mono ?_
              clear hA1
              rintro r w1 ⟨rfl,hk1⟩
              have hk1w:=hkA.drew.trans0 hk1
              obtain ⟨s0,s1,s2,s3,s4,s5⟩:=hsl w1 hk1w)
 have hbO1:=hbO.keep0 ((Keep.refl _ _).drew.trans0 hk1)
 have hA2:=hA w1.drew hk1w.drew
 obtain ⟨o0,o1,o2,o3,o4⟩:=ZI hbO1.drew
 clear s0 s1 s2 s3 s4 s5
 refine KA (fun w'=>w'.cell? ⟨w.heap.size,0,none⟩=some (.int .i64 k)∧w'.cell? ⟨w.heap.size,1,none⟩=some (.int .i64 b)∧w'.cell? ⟨w.heap.size,2,none⟩=some (.int .i64 c)∧w'.cell? ⟨w.heap.size,3,none⟩=some (.int .i64 e)∧w'.cell? ⟨w.heap.size,4,none⟩=some (.slice A d.length dc)) 5 [(0,false),(1,false),(3,false),(4,false),(2,true)]
  (by kernel_rfl) (by kernel_rfl) (fun _ _ d _ _ h=>by cases d <;> exact h) ⟨o0,o1,o2,o3,o4⟩ ?_
 simp only [PI]
 iterate 4 (refine XB ?_ (by rfl) ?_ ?_;rotate_left;(focus (rintro W ⟨hW0,hW1,hW2,hW3,hW4⟩;go_simp;try with_reducible rfl));simp only [Act.put,PU])
 refine QC (by rfl) (fun K hK=>?_)
 go_wp2_with (refine hA2.mono ?_;clear hA2;rintro r w2 ⟨rfl,hk2⟩)
 have hk2w:=hk1w.drew.trans0 hk2
 refine hK _ _ ((ZI (hbO1.drew.keep0 hk2))) ?_
 clear hK K
 try simp only [Act.put,PU]
 refine YC ?_
 obtain ⟨s0,s1,s2,s3,s4,s5⟩:=hsl w2 hk2w
 have f0:=hfz w2 hk2w (i*6)
 have f1:=hfz w2 hk2w (i*6+1)
 have f2:=hfz w2 hk2w (i*6+2)
 have f3:=hfz w2 hk2w (i*6+3)
 have f4:=hfz w2 hk2w (i*6+4)
 have f5:=hfz w2 hk2w (i*6+5)
 go_wp2_with fail
 go_ret
 obtain ⟨F',r1,r2,r3⟩:=hres w2 hk2w
 simp only [put6] at r1 r2
 rw [← JA HI]
 exact ⟨rfl,F',r1,r2,r3⟩
end
end
section
open Go.RowKit Go.Shelf
attribute [local go_sem] Oper.semAt_some
theorem WinIs.putObj {W:World} {base x k next:Nat} {L:Value} {F:List Nat} {sl:List PSlot} {o:Obj} (h:WinIs W base x L F next sl) (o':Obj) (hl:W.heap[k]? = some o) (ho:o.isCells=false):WinIs (W.putObj k o') base x L F next sl:=
 ⟨XN o' h.blk hl ho,ownsRow_putObj h.row o' hl ho,fun q hq=>ownsRow_putObj (h.dat q hq) o' hl ho,h.foot,h.base,h.pos,h.few,h.zero,h.nb⟩
abbrev WRnd:=Nat×PSlot
def KAa (x:WRnd):Array Value:=#[.int .i64 (x.1:Nat),.agg #[.int .i64 x.2.o.k,.int .i64 x.2.o.b,.int .i64 x.2.o.c,.int .i64 x.2.o.e,x.2.v]]
def KBD (base x bc next:Nat) (L:Value) (F:List Nat) (sl:List PSlot) (W W':World):Prop:=
 (Boxed W bc 101 (.pointer (some ⟨x,0,none⟩))→Boxed W' bc 101 (.pointer (some ⟨x,0,none⟩)))∧(WinIs W base x L F next sl→WinIs W' base x L F next sl)
def cyc (next:Nat) (sl:List PSlot) (k:Nat):Nat:=(List.range k).countP (fun j=>(sl.getD ((next+j) % sl.length) PSlot.none_).is)
theorem YAl (next:Nat) (sl:List PSlot) (k:Nat):cyc next sl (k+1)=cyc next sl k+if (sl.getD ((next+k) % sl.length) PSlot.none_).is then 1 else 0:=by
 unfold cyc
 rw [List.range_succ,List.countP_append,List.countP_singleton]
theorem VBB (next:Nat) (sl:List PSlot) (k:Nat):cyc next sl k≤k:=by
 unfold cyc
 have:=List.countP_le_length (p:=fun j=>(sl.getD ((next+j) % sl.length) PSlot.none_).is) (l:=List.range k)
 simpa using this
theorem XAt (n:Nat) (v:Value) (w:World) (hv:v.oneCell'=true) :
 CallsIn Fence.wide n Tryz.prog 140 #[v] w fun e w'=>e = .returned (.func (.func 221) #[] #[.pointer (some ⟨w.heap.size,0,none⟩)])∧w'=w.alloc (.cells #[v] 101):=by
 refine (callsIn_wide (n:=n)).2 ?_
 go_enter Tryz.func140,Tryz.ntmps140
 go_wp2
 go_ret
 exact ⟨rfl,rfl⟩
theorem QAi (n bc base x next:Nat) (L:Value) (F:List Nat) (sl:List PSlot) (w:World) (hs:WinIs w base x L F next sl) (hbc:Boxed w bc 101 (.pointer (some ⟨x,0,none⟩))) :
 XAq n Tryz.prog 221 #[.pointer (some ⟨bc,0,none⟩)] KAa (fun pre _ _=>pre.length≤16) (KBD base x bc next L F sl) (fun xs=>xs.length=cyc next sl sl.length) w:=by
 intro l J W hW hJ hY h0
 replace hs:=hs.keep0 hW
 replace hbc:Boxed W bc 101 (.pointer (some ⟨x,0,none⟩)):=(hW.block bc hbc.lt (by simp)).trans hbc
 have hcb:=hbc.cell
 obtain ⟨g,lc,hL,hlc⟩:=hs.form
 have hT:=callsIn_wide (n:=n-1).2 (noneW_is W base x L F next sl hs)
 have hc1:=hs.cells.2
 have hnb:=hs.nb
 have hfew:=hs.few
 have hpos:=hs.pos
 obtain ⟨m,hm⟩:∃ m,m=sl.length:=⟨_,rfl⟩
 have hm16:m≤16:=by omega
 have HM:=JC hm
 refine callsIn_of_wp Tryz.func221 rfl trivial ?_ rfl
 simp only [Tryz.ntmps221,List.size_toArray,List.length_cons,List.length_nil,Nat.reduceAdd,Nat.reduceSub,Array.replicate_succ,Array.replicate_zero,List.push_toArray,List.append_toArray,List.nil_append,List.cons_append]
 gi_wp2_with (refine ⟨trivial,fun h=>by simp [Fence.wide] at h,?_⟩;refine hT.mono ?_;clear hT;rintro e w' ⟨rfl,rfl⟩)
 gi_loopw [3,4] (fun i _ wr=>∃ (k:Nat) (pre:List WRnd),k≤m∧i = .int .i64 ((next+k:Nat))∧J pre wr∧Hid (pre.length=cyc next sl k)∧WinIs wr base x L F next sl∧Boxed wr bc 101 (.pointer (some ⟨x,0,none⟩)))
  (fun i _ _=>next+m-(intOf i).toNat)
 case atStart=>exact ⟨0,[],Nat.zero_le _,rfl,h0,rfl,hs,hbc⟩
 case round=>
  clear hs hbc h0 hcb hc1
  obtain ⟨k,pre,hk,rfl,hJp,hpl,hs,hbc⟩:=hrel
  have hcb:=hbc.cell
  obtain ⟨c0,c1⟩:=hs.cells
  rw [hL,← hm] at c0
  obtain ⟨z,hz⟩:∃ z,z=next+k:=⟨_,rfl⟩
  have HZ:=JC hz
  rw [← hz]
  by_cases hlt:k<m
  · have hzI:((z:Nat):Int)<((next:Nat):Int)+(m:Nat):=by omega
    have hz4:z≤4000000000:=by omega
    have hA:=fun W (h:WinIs W base x L F next sl)=>callsIn_wide (n:=n-1).2 (QAK W base x L F next sl h g lc hL z hz4)
    have hi:z % sl.length<sl.length:=Nat.mod_lt _ hpos
    have hsl:=fun W (h:WinIs W base x L F next sl)=>h.slot W base x L F next sl g lc hL (z % sl.length) hi
    have hcy:=YAl next sl k
    have hgd:sl.getD ((next+k) % sl.length) PSlot.none_=sl[z % sl.length]:=by rw [← hz,List.getD_eq_getElem?_getD,List.getElem?_eq_getElem hi];rfl
    have hdat:=hs.dat sl[z % sl.length] (List.getElem_mem _)
    rw [hgd] at hcy
    clear hgd
    generalize sl[z % sl.length]=q at *
    obtain ⟨qv,⟨qk,qb,qc,qe,qd⟩,is⟩:=q
    simp only at hsl hcy hdat
    obtain ⟨QA,qcap,rfl,_⟩:=KB hdat
    have HCY:=JC hcy
    have HS:=JC hs
    have hsD:=hs.keep0 (Keep.refl [] wr).drew
    have hbD:Boxed wr.drew bc 101 (.pointer (some ⟨x,0,none⟩)):=QB hbc (Keep.refl [] _).drew (by simp)
    clear hz hm hcy hs hlt hdat
    gi_wp2
    refine wpIn_wide.2 ?_
    refine KA (fun w'=>w'.cell? ⟨bc,0,none⟩=some (.pointer (some ⟨x,0,none⟩))∧w'.cell? ⟨x,0,none⟩=some (.slice (some ⟨g,0,none⟩) m lc)∧w'.cell? ⟨x,1,none⟩=some (.int .i64 (next:Nat))) 11 [(0,false),(1,false),(2,false),(3,false),(4,false),(5,false),(6,false),(7,false),(8,false),(9,false),(10,false)]
     (by kernel_rfl) (by kernel_rfl) (fun _ _ d _ _ h=>by cases d <;> exact h) ⟨hcb,c0,c1⟩ ?_
    simp only [PI]
    iterate 11 (refine XB ?_ (by rfl) ?_ ?_;rotate_left;(focus (rintro W ⟨hW0,hW1,hW2⟩;go_simp;try with_reducible rfl));simp only [Act.put,PU])
    refine YC ?_
    go_wp2_with fail
    have hcbD:=hbD.cell
    cases is
    · gi_wp2_with (
       refine ⟨trivial,fun h=>by simp [Fence.wide] at h,?_⟩
       refine (hA _ hsD).mono ?_
       clear hA
       rintro e w1 ⟨rfl,hk1⟩
       have hs1:=hsD.keep0 hk1
       have hb1:=QB hbD hk1 (by simp)
       have hJ1:=hJ _ _ _ hJp ((Keep.refl [] wr).drew.trans0 hk1)
       obtain ⟨s0,s1,s2,s3,s4,s5⟩:=hsl w1 hs1
       have HS1:=JC hs1
       clear hs1)
      refine ⟨fun f h=>(by cases h),?_⟩
      gi_wp2
      go_roundw
      case rel=>exact ⟨k+1,pre,by have:=JA HZ;omega,by have:=JA HZ;subst this;go_num,hJ1,by show _=_;rw [JA hpl,JA HCY];rfl,JA HS1,hb1⟩
      case measure=>simp [intOf];have:=JA HZ;omega
    · gi_wp2_with (
       refine ⟨trivial,fun h=>by simp [Fence.wide] at h,?_⟩
       refine (hA _ hsD).mono ?_
       clear hA
       rintro e w1 ⟨rfl,hk1⟩
       have hs1:=hsD.keep0 hk1
       have hb1:=QB hbD hk1 (by simp)
       have hJ1:=hJ _ _ _ hJp ((Keep.refl [] wr).drew.trans0 hk1)
       obtain ⟨s0,s1,s2,s3,s4,s5⟩:=hsl w1 hs1
       have HS1:=JC hs1
       clear hs1
       obtain ⟨fn,tmps,assign,body,hy,hR⟩:=hY pre (z,⟨.slice QA qd.length qcap,⟨qk,qb,qc,qe,qd⟩,true⟩) w1 hJ1 (by have:=VBB next sl k;rw [JA hpl];omega)
       dsimp only [KAa] at hy)
      refine ⟨fun h=>by simp [Fence.wide] at h,hR.mono ?_⟩
      rintro e W3 ⟨rfl,hJ3,hb3,hs3⟩
      have hs4:=JC (hs3 (JA HS1))
      have hb4:=hb3 hb1
      clear hy hR hs3 hb3
      gi_wp2
      go_roundw
      case rel=>exact ⟨k+1,_,by have:=JA HZ;omega,by have:=JA HZ;subst this;go_num,hJ3,by show _=_;rw [List.length_append,JA hpl,JA HCY];rfl,JA hs4,hb4⟩
      case measure=>simp [intOf];have:=JA HZ;omega
  · obtain rfl:m=k:=by omega
    have hzI:¬ ((z:Nat):Int)<((next:Nat):Int)+(m:Nat):=by omega
    clear hz hm
    gi_wp2
    refine wpIn_wide.2 ?_
    refine KA (fun w'=>w'.cell? ⟨bc,0,none⟩=some (.pointer (some ⟨x,0,none⟩))∧w'.cell? ⟨x,0,none⟩=some (.slice (some ⟨g,0,none⟩) m lc)∧w'.cell? ⟨x,1,none⟩=some (.int .i64 (next:Nat))) 11 [(0,false),(1,false),(2,false),(3,false),(4,false),(5,false),(6,false),(7,false),(8,false),(9,false),(10,false)]
     (by kernel_rfl) (by kernel_rfl) (fun _ _ d _ _ h=>by cases d <;> exact h) ⟨hcb,c0,c1⟩ ?_
    simp only [PI]
    iterate 11 (refine XB ?_ (by rfl) ?_ ?_;rotate_left;(focus (rintro W ⟨hW0,hW1,hW2⟩;go_simp;try with_reducible rfl));simp only [Act.put,PU])
    refine YC ?_
    go_wp2_with fail
    gi_wp2
    go_end0
    exact ⟨⟨_,rfl⟩,pre,by rw [JA hpl,← JA HM],hJ _ _ _ hJp (Keep.refl [] _).drew⟩
end
section
open Go.RowKit Go.Shelf
attribute [local go_sem] Oper.semAt_some
structure KLen (w:World) (pre:List WRnd) (W:World):Prop where
 cnt:Boxed W w.heap.size 3 (.int .i64 (pre.length:Nat))
 keep:Keep [] w W
theorem KLen.kept {w A B:World} {pre:List WRnd} (h:KLen w pre A) (hk:Keep [] A B):KLen w pre B:=⟨QB h.cnt hk (by simp),h.keep.trans0 hk⟩
theorem KLen.turned {w W:World} {k:Nat} {pre:List WRnd} {o o':Obj} (h:KLen w pre W) (hl:w.heap.size≤k) (hg:W.heap[k]? = some o) (ho:o.isCells=false):KLen w pre (W.putObj k o'):=
 ⟨QD o' h.cnt hg ho,h.keep.putObj hl o'⟩
theorem KAq (w:World) (base x next:Nat) (L:Value) (F:List Nat) (sl:List PSlot) (h:WinIs w base x L F next sl) :
 Calls Tryz.prog 70 #[.pointer (some ⟨x,0,none⟩)] w fun e w'=>e = .returned (.int .i64 (cyc next sl sl.length:Nat))∧Keep [] w w':=by
 refine (callsIn_wide (n:=3)).1 ?_
 refine callsIn_of_wp_marks Tryz.func70 rfl trivial ?_ rfl
 simp only [Tryz.ntmps70,List.size_toArray,List.length_cons,List.length_nil,Nat.reduceAdd,Nat.reduceSub,Array.replicate_succ,Array.replicate_zero,List.push_toArray,List.append_toArray,List.nil_append,List.cons_append]
 gi_wp2_with (first
  | (refine ⟨trivial,?_⟩;refine (XAt _ _ _ rfl).mono ?_;rintro e w' ⟨rfl,rfl⟩))
 obtain ⟨w1,hw1⟩:∃ w1,w1=w.alloc (.cells #[.int .i64 0] 3):=⟨_,rfl⟩
 obtain ⟨w2,hw2⟩:∃ w2,w2=w1.alloc (.cells #[.pointer (some ⟨x,0,none⟩)] 101):=⟨_,rfl⟩
 rw [← hw1,← hw2]
 have s1:w1.heap.size=w.heap.size+1:=by rw [hw1,World.size_alloc]
 have s2:w2.heap.size=w.heap.size+2:=by rw [hw2,World.size_alloc,s1]
 have k1:Keep [] w w1:=by rw [hw1];exact (Keep.refl _ _).alloc _
 have k2:Keep [] w1 w2:=by rw [hw2];exact (Keep.refl _ _).alloc _
 have kw:Keep [] w w2:=k1.trans0 k2
 have b2:Boxed w2 w.heap.size 3 (.int .i64 0):=QB (by rw [hw1];exact Boxed.new w _ _) k2 (by simp)
 have bc:Boxed w2 (w.heap.size+1) 101 (.pointer (some ⟨x,0,none⟩)):=by rw [hw2,← s1];exact Boxed.new w1 _ _
 have h0:KLen w [] w2:=⟨b2,kw⟩
 have hlt:=h.lt
 have hseq:=QAi 2 (w.heap.size+1) base x next L F sl w2 (h.keep0 kw) bc
 refine JO (n:=3) (gf:=221) (lb:=#[.pointer (some ⟨w.heap.size+1,0,none⟩)]) rfl (enters_of Tryz.func221 (by kernel_rfl) rfl)
  hseq
  (fun A B C h k=>⟨fun hb=>k.1 (h.1 hb),fun hb=>k.2 (h.2 hb)⟩)
  (fun W l o o' hl hg' ho=>⟨fun hb=>QD o' hb hg' ho,fun hw=>hw.putObj o' hg' ho⟩)
  (fun _=>rfl) (KLen w) (fun s A B h hk=>h.kept hk) (fun s W l o o' h hl hg' ho=>h.turned (by omega) hg' ho)
  (fun pre x W l o o' h hl hg' ho=>h) h0
  (fun y=>{ tmps:=#[.pointer (some ⟨x,0,none⟩),undef,.pointer (some ⟨w.heap.size,0,none⟩),.pointer (some ⟨x,0,none⟩),
    .func (.func 221) #[] #[.pointer (some ⟨w.heap.size+1,0,none⟩)],.int .i64 (y.1:Nat),.agg #[.int .i64 y.2.o.k,.int .i64 y.2.o.b,.int .i64 y.2.o.c,.int .i64 y.2.o.e,y.2.v],undef,undef,undef],defers:=[] }) ?assign ?body ?done
 case assign=>
  rintro l ⟨k,z⟩ W K hK
  dsimp only [KAa] at hK ⊢
  gi_wp2
  simpa using hK
 case body=>
  rintro l pre ⟨k,z⟩ W hI hle
  dsimp only
  obtain ⟨q,hq⟩:∃ q,q=pre.length:=⟨_,rfl⟩
  have hbx:=hI.cnt
  have hqs:q≤16:=by rw [hq];exact hle
  rw [← hq] at hbx
  have hc2:=hbx.cell
  have hf2:=hbx.frozen
  have hltB:=hbx.lt
  have HI:=JC hI
  have HQ:=JC hq
  clear h0 b2 bc kw k1 k2 hw1 hw2 hseq hI hq
  gi_wp2
  have hI:=JA HI
  have hk3:Keep [w.heap.size] W (W.setCell ⟨w.heap.size,0,none⟩ (.int .i64 ((q:Nat)+1))):=(Keep.refl _ _).setCell (p:=⟨w.heap.size,0,none⟩) (.inl (by simp)) _
  refine ⟨hk3.fromCells (fun g hg o ho=>?_) _,⟨fun hb=>QB hb hk3 (by simp),fun hw=>hw.keep hk3 (fun x hx=>by have:=hlt x hx;simp;omega)⟩,⟨?_,hI.keep.trans hk3 (fun x hx => .inr (by simp at hx;omega))⟩⟩
  · rw [List.mem_singleton.1 hg] at ho
    rw [show W.heap[_]? = _ from hbx] at ho;cases ho;rfl
  · have:=hbx.set (.int .i64 ((q:Nat)+1))
    rw [List.length_append,← JA HQ]
    simpa using this
 case done=>
  intro D' xs W hD' hS hI hdef
  have hbx:=hI.cnt
  rw [hS] at hbx
  obtain ⟨q,hq⟩:∃ q,q=cyc next sl sl.length:=⟨_,rfl⟩
  rw [← hq] at hbx
  have HQ:=JC hq
  clear hq
  have hc2:=hbx.cell
  have hf2:=hbx.frozen
  have HI:=JC hI
  clear h0 b2 bc kw k1 k2 hw1 hw2 hseq hI
  gi_wp2
  have hI:=JA HI
  have hKs:Keep [w.heap.size] W (W.setCell ⟨w.heap.size,0,none⟩ (.int .i64 (q:Nat))):=(Keep.refl _ _).setCell (p:=⟨w.heap.size,0,none⟩) (.inl (by simp)) _
  have hdef2:(W.setCell ⟨w.heap.size,0,none⟩ (.int .i64 (q:Nat))).heap[D']? = some (.deferred (some [])):=(hKs.block D' (Array.getElem?_eq_some_iff.1 hdef).1 (by simp;omega)).trans hdef
  have q6:=(QD (.deferred none) (hbx.set (.int .i64 (q:Nat))) hdef2 rfl).cell
  have hkw:=(hI.keep.trans hKs (fun x hx => .inr (by simp at hx;omega))).putObj (g:=D') (by omega) (.deferred none)
  refine ⟨by simp,.inl ⟨_,_,rfl,run_takeDeferred hdef2,?_⟩⟩
  refine ⟨.int .i64 (q:Nat),?_,by rw [JA HQ],hkw⟩
  simp [results,Tryz.results70,go_sem,q6]
theorem KAM (m:Nat):(madeCells #[.int .i64 0,.int .i64 0,.int .i64 0,.int .i64 0,.slice none 0 0,.bool false] (m*6)).toList=(XD m).flatMap slc:=by
 apply List.ext_getElem?
 intro j
 by_cases hj:j<m*6
 · have h1:(XD m)[j / 6]'(by simp [XD];omega)=PSlot.none_:=by simp [XD]
   have h2:=VJ QG (XD m) (j / 6) (j % 6) (by simp [XD];omega) (by omega)
   rw [show j / 6*6+j % 6=j by omega,h1] at h2
   rw [h2]
   have:j % 6=0∨j % 6=1∨j % 6=2∨j % 6=3∨j % 6=4∨j % 6=5:=by omega
   rw [Array.getElem?_toList,madeCells,Array.getElem?_map,Array.getElem?_range,if_pos hj]
   simp only [Option.map_some,List.size_toArray,List.length_cons,List.length_nil]
   rcases this with h | h | h | h | h | h <;> (rw [show j % (0+1+1+1+1+1+1)=j % 6 from rfl,h];rfl)
 · rw [List.getElem?_eq_none (by rw [Array.length_toList,size_madeCells];omega),List.getElem?_eq_none (by rw [KP QG];simp [XD];omega)]
theorem JAA (m next:Nat) (h1:1≤m) (h2:m≤16) (h3:1≤next∧next≤1000000000) (w:World) :
 Calls Tryz.prog 51 #[.int .i64 (m:Nat),.int .i64 (next:Nat)] w fun e w'=>∃ x,e = .returned (.pointer (some ⟨x,0,none⟩))∧∃ F,WinAt w' w.heap.size x F next (XD m)∧Keep [] w w':=by
 have i1:¬ ((m:Nat):Int)<1:=by omega
 have i2:¬ (16:Int)<((m:Nat):Int):=by omega
 have i3:¬ ((next:Nat):Int)<1:=by omega
 have i4:¬ (2147483647:Int)<((next:Nat):Int):=by omega
 go_enter Tryz.func51,Tryz.ntmps51
 go_wp2_with (at_make;refine elemSlot.wp_make rfl _ _ rfl .i64 .i64 m rfl rfl (by omega) (by omega) ?_;intro w1 g1 hg1 hs1 hb1 hk1;obtain rfl:g1=w.heap.size:=hg1;clear hs1)
 go_ret
 have hb2:w1.ownsRow w.heap.size 195 6 (.slice (some ⟨w.heap.size,0,none⟩) m m) m ((XD m).flatMap slc):=
  ⟨by rw [KP QG];simp [XD],.inr ⟨w.heap.size,m,_,rfl,Nat.le_refl _,hb1,Nat.le_refl _,by simp [maxLen];omega,by rw [size_madeCells],by rw [← KAM];exact List.take_of_length_le (by rw [Array.length_toList,size_madeCells];exact Nat.le_refl _)⟩⟩
 refine ⟨_,rfl,⟨_,_,Blk.new _ _ _,by have:=QE hb2 (.cells #[.slice (some ⟨w.heap.size,0,none⟩) m m,.int .i64 (next:Nat)] 191);simpa [XD] using this,fun q hq=>?_,rfl,hk1.size,by simpa [XD] using h1,by simpa [XD] using h2,fun q hq _=>?_,by omega⟩,hk1.alloc _⟩
 · rw [List.eq_of_mem_replicate hq];exact PSlot.none_dat _ _
 · exact List.eq_of_mem_replicate hq
theorem VAX (m:Int) (next:Nat) (h:m<1∨16<m) (w:World) :
 Calls Tryz.prog 51 #[.int .i64 m,.int .i64 (next:Nat)] w fun e w'=>e = .returned (.pointer none)∧w=w':=by
 rcases h with h | h
 · go_enter Tryz.func51,Tryz.ntmps51
   go_wp2
   go_ret
   exact ⟨rfl,rfl⟩
 · have h2:¬ m<1:=by omega
   go_enter Tryz.func51,Tryz.ntmps51
   go_wp2
   go_ret
   exact ⟨rfl,rfl⟩
end
section
open Go.RowKit Go.Shelf
structure ReplicaIs (w:World) (base r s d x:Nat) (Fs Fx:List Nat) (B:Nat) (R:RS):Prop where
 blk:Blk w r 104 #[.pointer (some ⟨s,0,none⟩),.pointer (some ⟨x,0,none⟩)]
 st:StoreAt w base s d Fs B R.S
 win:WinAt w base x Fx R.next R.sl
 ap:Apart Fs Fx
 rs:r∉Fs
 rx:r∉Fx
 rb:base≤r
 mode:R.S.st.mode=1
 view:1≤R.S.st.view∧R.S.st.view≤2147483647
def JM (r:Nat) (Fs Fx:List Nat):List Nat:=r :: (Fs++Fx)
namespace ReplicaIs
variable {w w':World} {base r s d x:Nat} {Fs Fx l:List Nat} {B:Nat} {R:RS}
theorem keep (h:ReplicaIs w base r s d x Fs Fx B R) (hk:Keep l w w') (ha:Apart (JM r Fs Fx) l):ReplicaIs w' base r s d x Fs Fx B R:=
 ⟨h.blk.keep hk (ha r (by simp [JM])),h.st.keep hk (fun y hy=>ha y (by simp [JM,hy])),h.win.keep hk (fun y hy=>ha y (by simp [JM,hy])),h.ap,h.rs,h.rx,h.rb,h.mode,h.view⟩
theorem keep0 (h:ReplicaIs w base r s d x Fs Fx B R) (hk:Keep [] w w'):ReplicaIs w' base r s d x Fs Fx B R:=h.keep hk Apart.nil_right
theorem lt (h:ReplicaIs w base r s d x Fs Fx B R):∀ y∈JM r Fs Fx,y<w.heap.size:=fun y hy=>by
 simp only [JM,List.mem_cons,List.mem_append] at hy
 rcases hy with rfl | hy | hy
 · exact h.blk.lt
 · exact h.st.lt y hy
 · exact h.win.lt y hy
theorem ge (h:ReplicaIs w base r s d x Fs Fx B R):∀ y∈JM r Fs Fx,base≤y:=fun y hy=>by
 simp only [JM,List.mem_cons,List.mem_append] at hy
 rcases hy with rfl | hy | hy
 · exact h.rb
 · exact h.st.ge y hy
 · exact h.win.ge y hy
theorem cells (h:ReplicaIs w base r s d x Fs Fx B R):w.cell? ⟨r,0,none⟩=some (.pointer (some ⟨s,0,none⟩))∧w.cell? ⟨r,1,none⟩=some (.pointer (some ⟨x,0,none⟩)):=⟨by simpa using h.blk.cell 0,by simpa using h.blk.cell 1⟩
theorem setSt (h:ReplicaIs w base r s d x Fs Fx B R) {Fs':List Nat} {S':PS} (hs:StoreAt w' base s d Fs' B S') (hk:Keep Fs w w') (hg:Grow w Fs Fs') (hm:S'.st.mode=1) (hv:S'.st.view=R.S.st.view):ReplicaIs w' base r s d x Fs' Fx B ⟨S',R.next,R.sl⟩:=
 ⟨h.blk.keep hk h.rs,hs,h.win.keep hk h.ap.symm,h.ap.grow hg h.win.lt,fun hr=>(hg r hr).elim h.rs (by have:=h.blk.lt;omega),h.rx,h.rb,hm,hv ▸ h.view⟩
theorem setWin (h:ReplicaIs w base r s d x Fs Fx B R) {Fx':List Nat} {n:Nat} {sl:List PSlot} (hx:WinAt w' base x Fx' n sl) (hk:Keep Fx w w') (hg:∀ y∈Fx',y∈Fx∨(y∉Fs∧y≠r)):ReplicaIs w' base r s d x Fs Fx' B ⟨R.S,n,sl⟩:=
 ⟨h.blk.keep hk h.rx,h.st.keep hk h.ap,hx,fun y hy hm=>(hg y hm).elim (h.ap y hy) (fun h'=>h'.1 hy),h.rs,fun hr=>(hg r hr).elim h.rx (fun h'=>h'.2 rfl),h.rb,h.mode,h.view⟩
end ReplicaIs
theorem QH (w:World) (base s d:Nat) (F:List Nat) (B:Nat) (S:PS) (h:StoreAt w base s d F B S):Calls Tryz.prog 17 #[.pointer (some ⟨s,0,none⟩)] w fun e w'=>e = .returned (.agg #[.int .i64 S.st.mode,.int .i64 S.st.view,.int .i64 S.st.epoch,.int .i64 S.st.seq,.int .i64 S.st.done,.int .i64 S.st.mount,.int .i64 S.st.gen,.int .i64 (ZE S.us:Nat),.int .i64 (QAR S:Nat),.int .i64 (YG S.I.ol:Nat)])∧Keep [] w w':=by
 obtain ⟨g,t,p,m,Fd,Ft,Fw,Fm,L0,L1,h,rfl⟩:=h
 exact VAN w base s d g t p m Fd Ft Fw Fm L0 L1 B S h
section
variable (w:World) (base r s d x:Nat) (Fs Fx:List Nat) (B:Nat) (R:RS) (h:ReplicaIs w base r s d x Fs Fx B R)
include h
theorem QZ (hs:R.S.st.seq≤2147483647) (he:R.S.st.epoch≤2147483647) (hd:R.S.st.done≤R.S.st.seq) :
 Calls Tryz.prog 58 #[.pointer (some ⟨r,0,none⟩)] w fun e w'=>∃ u,e = .returned (.tuple #[u,.int .i64 0])∧w'.ownsRow w.heap.size 5 1 u 25 (bys (KE 8 R.S.st.view R.S.st.seq 0 0 R.S.st.epoch R.S.st.done []))∧Keep [] w w':=by
 have hS:=QH w base s d Fs B R.S h.st
 have hE:=fun W=>Xr 8 R.S.st.view R.S.st.seq 0 0 R.S.st.epoch R.S.st.done none 0 0 [] W (Rd.nil _ _) ⟨by have:=h.view;omega,.inr (.inr (.inr (.inl ⟨rfl,by omega,rfl,rfl,by omega,by omega,rfl⟩)))⟩
 obtain ⟨c0,c1⟩:=h.cells
 unfold frv at hE
 generalize R.S.st=st at *
 obtain ⟨mode,view,epoch,seq,done,mount,gen⟩:=st
 simp only at hS hE hs he hd ⊢
 go_enter Tryz.func58,Tryz.ntmps58
 go_wp2_with (first
  | (go_at_call 17;refine hS.mono ?_;clear hS;rintro e w1 ⟨rfl,hk1⟩)
  | (go_at_call 91;refine (hE _).mono ?_;clear hE;rintro e w2 ⟨u,rfl,hu,hk2⟩))
 go_ret2
 exact ⟨u,rfl,KC hu (by have:=hk1.size;simp;omega),(hk1.alloc _).trans0 hk2⟩
theorem readyR_ok:Calls Tryz.prog 52 #[.pointer (some ⟨r,0,none⟩)] w fun e w'=>e = .returned (.int .i64 0)∧Keep [] w w':=by
 have hS:=QH w base s d Fs B R.S h.st
 have hm:=h.mode
 have hD:Calls Tryz.prog 111 #[.pointer (some ⟨s,0,none⟩)] w fun e w'=>e = .returned (.pointer (some ⟨d,0,none⟩))∧w=w':=by
  obtain ⟨g,t,p,m,Fd,Ft,Fw,Fm,L0,L1,h2,hf⟩:=h.st
  exact DiskS_is w base s d g t p m Fd Ft Fw Fm L0 L1 B R.S h2
 have hO:Calls Tryz.prog 61 #[.pointer (some ⟨d,0,none⟩)] w fun e w'=>e = .returned (.bool false)∧w=w':=by
  obtain ⟨g,t,p,m,Fd,Ft,Fw,Fm,L0,L1,h2,hf⟩:=h.st
  have:=Qx w base d Fd R.S.D h2.log.disk
  rwa [h2.log.off] at this
 obtain ⟨c0,c1⟩:=h.cells
 rw [hm] at hS
 clear hm
 have hfd:=fun (a b c e f g h' i j:Value) W=>VF (P:=Tryz.prog) Tryz.underlying51 0 rfl Tryz.isAgg3 #[.int .i64 1,a,b,c,e,f,g,h',i,j] rfl W
 go_enter Tryz.func52,Tryz.ntmps52
 go_wp2_with (first
  | (go_at_call 111;refine hD.mono ?_;clear hD;rintro e w' ⟨rfl,rfl⟩)
  | (go_at_call 61;refine hO.mono ?_;clear hO;rintro e w' ⟨rfl,rfl⟩)
  | (go_at_call 17;refine hS.mono ?_;clear hS;rintro e w1 ⟨rfl,hk1⟩))
 go_ret
 exact ⟨rfl,hk1⟩
end
theorem YAL (w:World):Calls Tryz.prog 52 #[.pointer none] w fun e w'=>e = .returned (.int .i64 3)∧w=w':=by
 go_enter Tryz.func52,Tryz.ntmps52
 go_wp2
 go_ret
 exact ⟨rfl,rfl⟩
end
section
open Go.RowKit Go.Shelf
section
variable (w:World) (base r s d x:Nat) (Fs Fx:List Nat) (B:Nat) (R:RS) (h:ReplicaIs w base r s d x Fs Fx B R)
include h
theorem ImageAt_st:∃ m,(∀ W,Keep [] w W→Calls Tryz.prog 50 #[.pointer (some ⟨s,0,none⟩)] W fun e w'=>e = .returned (.pointer (some ⟨m,0,none⟩))∧W=w')∧(∀ W,Keep [] w W→Calls Tryz.prog 112 #[.pointer (some ⟨m,0,none⟩)] W fun e w'=>e = .returned (.int .i64 (B:Nat))∧W=w')∧B≤64:=by
 obtain ⟨g,t,p,m,Fd,Ft,Fw,Fm,L0,L1,h2,hf⟩:=h.st
 exact ⟨m,fun W hk=>ImageS_is W base s d g t p m Fd Ft Fw Fm L0 L1 B R.S (h2.keep0 hk),fun W hk=>BlocksS_is W base s d g t p m Fd Ft Fw Fm L0 L1 B R.S (h2.keep0 hk),h2.log.geom.few⟩
theorem XW (k v q b c e dn:Nat) (D:Value) (hk:k=1∨k=2) (hb:b+max c 1≤B) (A:Option Addr) (n m:Nat) (hD:D = .slice A n m):Calls Tryz.prog 53 #[.pointer (some ⟨r,0,none⟩),.agg #[.int .i64 k,.int .i64 v,.int .i64 q,.int .i64 b,.int .i64 c,.int .i64 e,.int .i64 dn,D]] w fun e w'=>e = .returned (.bool false)∧Keep [] w w':=by
 subst hD
 obtain ⟨mm,hI,hBl,h64⟩:=ImageAt_st w base r s d x Fs Fx B R h
 obtain ⟨c0,c1⟩:=h.cells
 have hrl:=h.blk.lt
 obtain ⟨mx,hmx⟩:∃ mx:Nat,max ((c:Nat):Int) 1=(mx:Nat)∧b+mx≤B:=⟨max c 1,by omega,hb⟩
 obtain ⟨hmx,hb2⟩:=hmx
 have hkA:Keep [] w (w.alloc (.cells #[.int .i64 k,.int .i64 v,.int .i64 q,.int .i64 b,.int .i64 c,.int .i64 e,.int .i64 dn,.slice A n m] 85)):=(Keep.refl _ _).alloc _
 have hbF:=Blk.new w 85 #[.int .i64 k,.int .i64 v,.int .i64 q,.int .i64 b,.int .i64 c,.int .i64 e,.int .i64 dn,.slice A n m]
 have c0A:=(h.keep0 hkA).cells.1
 clear h hb
 go_enter Tryz.func53,Tryz.ntmps53
 go_wp2_with fail
 obtain ⟨f0,f1,f2,f3,f4,f5,f6,f7⟩:=XC hbF
 have hbI:((b:Nat):Int)+(mx:Nat)≤(B:Nat):=by omega
 rcases hk with rfl | rfl
 · refine KA (fun w'=>w'.cell? ⟨w.heap.size,0,none⟩=some (.int .i64 ((1:Nat):Int))∧w'.cell? ⟨w.heap.size,3,none⟩=some (.int .i64 (b:Nat))∧w'.cell? ⟨r,0,none⟩=some (.pointer (some ⟨s,0,none⟩))) 23 [(0,false),(1,false),(2,false),(3,false),(4,false),(5,false),(6,false),(7,false),(8,false),(9,false),(10,false),(11,false),(12,false),(13,false),(14,false),(15,false),(16,false),(17,false),(18,false),(19,false),(20,false),(21,true),(22,true)]
    (by kernel_rfl) (by kernel_rfl) (fun _ _ d _ _ h=>by cases d <;> exact h) ⟨f0,f3,c0A⟩ ?_
   simp only [PI]
   iterate 8 (refine XB ?_ (by rfl) ?_ ?_;rotate_left;(focus (rintro W ⟨hW0,hW1,hW2⟩;go_simp;try with_reducible rfl));simp only [Act.put,PU])
   iterate 3 (refine Zh (by rfl) ?_;simp only [Act.put,PU])
   iterate 10 (refine XB ?_ (by rfl) ?_ ?_;rotate_left;(focus (rintro W ⟨hW0,hW1,hW2⟩;go_simp;try with_reducible rfl));simp only [Act.put,PU])
   refine QC (by rfl) (fun K hK=>?_)
   go_wp2_with (refine (hI _ hkA.drew).mono ?_;rintro e w' ⟨rfl,rfl⟩)
   refine hK _ _ (⟨f0,f3,c0A⟩) ?_
   clear hK K
   try simp only [Act.put,PU]
   refine QC (by rfl) (fun K hK=>?_)
   go_wp2_with (refine (hBl _ hkA.drew).mono ?_;rintro e w' ⟨rfl,rfl⟩)
   refine hK _ _ (⟨f0,f3,c0A⟩) ?_
   clear hK K
   try simp only [Act.put,PU]
   refine YC ?_
   go_wp2_with fail
   go_ret
   exact ⟨by simpa using hbI,hkA.drew⟩
 · refine KA (fun w'=>w'.cell? ⟨w.heap.size,0,none⟩=some (.int .i64 ((2:Nat):Int))∧w'.cell? ⟨w.heap.size,3,none⟩=some (.int .i64 (b:Nat))∧w'.cell? ⟨r,0,none⟩=some (.pointer (some ⟨s,0,none⟩))) 23 [(0,false),(1,false),(2,false),(3,false),(4,false),(5,false),(6,false),(7,false),(8,false),(9,false),(10,false),(11,false),(12,false),(13,false),(14,false),(15,false),(16,false),(17,false),(18,false),(19,false),(20,false),(21,true),(22,true)]
    (by kernel_rfl) (by kernel_rfl) (fun _ _ d _ _ h=>by cases d <;> exact h) ⟨f0,f3,c0A⟩ ?_
   simp only [PI]
   iterate 21 (refine XB ?_ (by rfl) ?_ ?_;rotate_left;(focus (rintro W ⟨hW0,hW1,hW2⟩;go_simp;try with_reducible rfl));simp only [Act.put,PU])
   refine QC (by rfl) (fun K hK=>?_)
   go_wp2_with (refine (hI _ hkA.drew).mono ?_;rintro e w' ⟨rfl,rfl⟩)
   refine hK _ _ (⟨f0,f3,c0A⟩) ?_
   clear hK K
   try simp only [Act.put,PU]
   refine QC (by rfl) (fun K hK=>?_)
   go_wp2_with (refine (hBl _ hkA.drew).mono ?_;rintro e w' ⟨rfl,rfl⟩)
   refine hK _ _ (⟨f0,f3,c0A⟩) ?_
   clear hK K
   try simp only [Act.put,PU]
   refine YC ?_
   go_wp2_with fail
   go_ret
   exact ⟨by simpa using hbI,hkA.drew⟩
omit h in
theorem VZ (v q b c e dn:Nat) (A:Option Addr) (n m:Nat):Calls Tryz.prog 53 #[.pointer (some ⟨r,0,none⟩),.agg #[.int .i64 3,.int .i64 v,.int .i64 q,.int .i64 b,.int .i64 c,.int .i64 e,.int .i64 dn,.slice A n m]] w fun e w'=>e = .returned (.bool false)∧Keep [] w w':=by
 have hkA:Keep [] w (w.alloc (.cells #[.int .i64 3,.int .i64 v,.int .i64 q,.int .i64 b,.int .i64 c,.int .i64 e,.int .i64 dn,.slice A n m] 85)):=(Keep.refl _ _).alloc _
 have hbF:=Blk.new w 85 #[.int .i64 3,.int .i64 v,.int .i64 q,.int .i64 b,.int .i64 c,.int .i64 e,.int .i64 dn,.slice A n m]
 obtain ⟨mx,hmx⟩:∃ mx:Int,max ((c:Nat):Int) 1=mx:=⟨_,rfl⟩
 go_enter Tryz.func53,Tryz.ntmps53
 go_wp2_with fail
 obtain ⟨f0,f1,f2,f3,f4,f5,f6,f7⟩:=XC hbF
 refine KA (fun w'=>w'.cell? ⟨w.heap.size,0,none⟩=some (.int .i64 3)) 23 [(0,false),(1,false),(2,false),(3,false),(4,false),(5,false),(6,false),(7,false),(8,false),(9,false),(10,false),(11,false),(12,false),(13,false),(14,false),(15,false),(16,false),(17,false),(18,false),(19,false),(20,false),(21,true),(22,true)]
  (by kernel_rfl) (by kernel_rfl) (fun _ _ d _ _ h=>by cases d <;> exact h) f0 ?_
 simp only [PI]
 iterate 13 (refine XB ?_ (by rfl) ?_ ?_;rotate_left;(focus (intro W hW;go_simp;try with_reducible rfl));simp only [Act.put,PU])
 iterate 8 (refine Zh (by rfl) ?_;simp only [Act.put,PU])
 refine QP (by rfl) f0 ?_
 simp only [Act.put,PU]
 refine QP (by rfl) f0 ?_
 simp only [Act.put,PU]
 refine YC ?_
 go_wp2_with fail
 go_ret
 exact ⟨rfl,hkA.drew⟩
theorem YAo (k j:Nat) (hg:Good B R.S k j) (hk:k≤50) (hj:j≤20000) (o:POp) (ho:VT B o) (hm:o.k=3→o.e=R.S.st.epoch+1) (A:Option Addr) (dl c:Nat) (hr:Rd w A dl (bys o.d)) (hA:∀ y,A=some y→y.block∉Fs) :
 Calls Tryz.prog 119 #[.pointer (some ⟨r,0,none⟩),.agg #[.int .i64 o.k,.int .i64 o.b,.int .i64 o.c,.int .i64 o.e,.slice A dl c]] w fun e w'=>e = .returned (.int .i64 0)∧∃ Fs' S',StoreAt w' base s d Fs' B S'∧Does B R.S o S'∧Keep Fs w w'∧Grow w Fs Fs':=by
 obtain ⟨ok,ob,oc,oe,od⟩:=o
 simp only at hm hr ⊢
 have hdl:od.length=dl:=by simpa using hr.1
 have hkA:Keep [] w (w.alloc (.cells #[.int .i64 ok,.int .i64 ob,.int .i64 oc,.int .i64 oe,.slice A dl c] 46)):=(Keep.refl _ _).alloc _
 have hbO:=Blk.new w 46 #[.int .i64 ok,.int .i64 ob,.int .i64 oc,.int .i64 oe,.slice A dl c]
 have hst:=h.st.keep0 hkA.drew
 have hmode:=h.mode
 have c0A:=(h.keep0 hkA).cells.1
 obtain ⟨o0,o1,o2,o3,o4⟩:=ZI hbO
 rcases ho with ⟨h1,h2,h3,h4⟩ | ⟨h1,h2,h3,h4⟩ | ⟨h1,h2,h3⟩
 · simp only at h1 h2 h3 h4
   subst h1
   obtain ⟨b,rfl⟩:∃ b:Nat,ob=b:=⟨ob.toNat,by omega⟩
   obtain rfl:dl=64:=by omega
   have hW:=VAb _ base s d Fs B R.S hst k j hg hk hj hmode b (by omega) A c od (hr.keep hkA.drew) hA
   clear h hst
   go_enter Tryz.func119,Tryz.ntmps119
   go_wp2_with fail
   refine KA (fun w'=>w'.cell? ⟨r,0,none⟩=some (.pointer (some ⟨s,0,none⟩))∧w'.cell? ⟨w.heap.size,1,none⟩=some (.int .i64 (b:Nat))∧w'.cell? ⟨w.heap.size,4,none⟩=some (.slice A 64 c)) 8 [(0,false),(1,false),(2,false),(3,false),(4,false),(5,false),(6,false),(7,false)]
    (by kernel_rfl) (by kernel_rfl) (fun _ _ d _ _ h=>by cases d <;> exact h) ⟨c0A,o1,o4⟩ ?_
   simp only [PI]
   iterate 8 (refine XB ?_ (by rfl) ?_ ?_;rotate_left;(focus (rintro W ⟨hW0,hW1,hW2⟩;go_simp;try with_reducible rfl));simp only [Act.put,PU])
   refine YC ?_
   go_wp2_with (refine hW.mono ?_;clear hW;rintro e w2 ⟨rfl,F',S',g1,g2,g3,g4⟩)
   go_ret
   exact ⟨rfl,F',S',g1,.inl ⟨rfl,by simpa using g2⟩,hkA.drew.zero.trans g3 (fun x hx => .inl hx),g4.keep hkA.drew⟩
 · simp only at h1 h2 h3 h4
   subst h1
   obtain ⟨b,rfl⟩:∃ b:Nat,ob=b:=⟨ob.toNat,by omega⟩
   obtain ⟨n,rfl⟩:∃ n:Nat,oc=n:=⟨oc.toNat,by omega⟩
   have hW:=VAk _ base s d Fs B R.S hst k j hg hk hj hmode b n (by omega) (by omega)
   clear h hst
   go_enter Tryz.func119,Tryz.ntmps119
   go_wp2_with fail
   refine KA (fun w'=>w'.cell? ⟨r,0,none⟩=some (.pointer (some ⟨s,0,none⟩))∧w'.cell? ⟨w.heap.size,1,none⟩=some (.int .i64 (b:Nat))∧w'.cell? ⟨w.heap.size,2,none⟩=some (.int .i64 (n:Nat))) 8 [(0,false),(1,false),(2,false),(3,false),(4,false),(5,false),(6,false),(7,false)]
    (by kernel_rfl) (by kernel_rfl) (fun _ _ d _ _ h=>by cases d <;> exact h) ⟨c0A,o1,o2⟩ ?_
   simp only [PI]
   iterate 8 (refine XB ?_ (by rfl) ?_ ?_;rotate_left;(focus (rintro W ⟨hW0,hW1,hW2⟩;go_simp;try with_reducible rfl));simp only [Act.put,PU])
   refine YC ?_
   go_wp2_with (refine hW.mono ?_;clear hW;rintro e w2 ⟨rfl,F',S',g1,g2,g3,g4⟩)
   go_ret
   exact ⟨rfl,F',S',g1,.inr (.inl ⟨rfl,by simpa using g2⟩),hkA.drew.zero.trans g3 (fun x hx => .inl hx),g4.keep hkA.drew⟩
 · simp only at h1 h2 h3
   subst h1
   have hoe:=hm rfl
   obtain ⟨e,rfl⟩:∃ e:Nat,oe=e:=⟨oe.toNat,by omega⟩
   have hW:=JAj _ base s d Fs B R.S hst k j hg hk hj hmode e (by omega)
   have HM:=JC hoe
   clear h hst hm hoe
   go_enter Tryz.func119,Tryz.ntmps119
   go_wp2_with fail
   refine KA (fun w'=>w'.cell? ⟨r,0,none⟩=some (.pointer (some ⟨s,0,none⟩))∧w'.cell? ⟨w.heap.size,3,none⟩=some (.int .i64 (e:Nat))) 6 [(0,false),(1,false),(2,false),(3,false),(4,false),(5,false)]
    (by kernel_rfl) (by kernel_rfl) (fun _ _ d _ _ h=>by cases d <;> exact h) ⟨c0A,o3⟩ ?_
   simp only [PI]
   iterate 6 (refine XB ?_ (by rfl) ?_ ?_;rotate_left;(focus (rintro W ⟨hW0,hW1⟩;go_simp;try with_reducible rfl));simp only [Act.put,PU])
   refine YC ?_
   go_wp2_with (refine hW.mono ?_;clear hW;rintro e w2 ⟨rfl,F',S',g1,g2,g3,g4⟩)
   go_ret
   exact ⟨rfl,F',S',g1,.inr (.inr ⟨rfl,JA HM,by simpa using g2⟩),hkA.drew.zero.trans g3 (fun x hx => .inl hx),g4.keep hkA.drew⟩
theorem ZAX (o:POp) (h3:o.k=3) (ho:VT B o) (hm:o.e≠R.S.st.epoch+1) (heb:R.S.st.epoch≤1000000000) (A:Option Addr) (dl c:Nat) :
 Calls Tryz.prog 119 #[.pointer (some ⟨r,0,none⟩),.agg #[.int .i64 o.k,.int .i64 o.b,.int .i64 o.c,.int .i64 o.e,.slice A dl c]] w fun e w'=>e = .returned (.int .i64 1)∧Keep [] w w':=by
 obtain ⟨ok,ob,oc,oe,od⟩:=o
 simp only at hm h3 ⊢
 subst h3
 have hkA:Keep [] w (w.alloc (.cells #[.int .i64 3,.int .i64 ob,.int .i64 oc,.int .i64 oe,.slice A dl c] 46)):=(Keep.refl _ _).alloc _
 have hbO:=Blk.new w 46 #[.int .i64 3,.int .i64 ob,.int .i64 oc,.int .i64 oe,.slice A dl c]
 have c0A:=(h.keep0 hkA).cells.1
 obtain ⟨o0,o1,o2,o3,o4⟩:=ZI hbO
 obtain ⟨e,rfl⟩:∃ e:Nat,oe=e:=by
  rcases ho with ⟨h1,_⟩ | ⟨h1,_⟩ | ⟨_,h1,_⟩
  · simp at h1
  · simp at h1
  · exact ⟨oe.toNat,by simp only at h1;omega⟩
 have hW:=KAW _ base s d Fs B R.S (h.st.keep0 hkA.drew) h.mode e (by omega) heb
 clear h hm
 go_enter Tryz.func119,Tryz.ntmps119
 go_wp2_with fail
 refine KA (fun w'=>w'.cell? ⟨r,0,none⟩=some (.pointer (some ⟨s,0,none⟩))∧w'.cell? ⟨w.heap.size,3,none⟩=some (.int .i64 (e:Nat))) 6 [(0,false),(1,false),(2,false),(3,false),(4,false),(5,false)]
  (by kernel_rfl) (by kernel_rfl) (fun _ _ d _ _ h=>by cases d <;> exact h) ⟨c0A,o3⟩ ?_
 simp only [PI]
 iterate 6 (refine XB ?_ (by rfl) ?_ ?_;rotate_left;(focus (rintro W ⟨hW0,hW1⟩;go_simp;try with_reducible rfl));simp only [Act.put,PU])
 refine YC ?_
 go_wp2_with (refine hW.mono ?_;clear hW;rintro e w2 ⟨rfl,rfl⟩)
 go_ret
 exact ⟨rfl,hkA.drew⟩
end
end
end Go.Proofs.YtmoagodllhdemaaGreat
