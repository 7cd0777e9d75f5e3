/-
  A part of the proof: lemmas, and contracts of functions; their conditions stand in them.
-/
import Derived.Test.YtmoagodllhdemaaGreatE16
import Derived.Test.YtmoagodllhdemaaGreatE31
import Derived.Test.YtmoagodllhdemaaGreatE28
namespace Go.Proofs.YtmoagodllhdemaaGreat
set_option linter.unusedSimpArgs false
set_option linter.unusedVariables false
set_option maxHeartbeats 2000000
set_option maxRecDepth 20000
section
open Go.RowKit
section
variable {P:Program} {t e:TypeId} {z:Value} {s bytes:Nat}
theorem ElemN.run_copyAll (E:ElemN P t e z s bytes) (w:World) (rt:TypeId) (base g c n:Nat) (xs:List Value) (hown:w.ownsRow base e s (.slice (some ⟨g,0,none⟩) n c) n xs)
 (a:Addr) (sc:Nat) (ys:List Value) (hr:Rd w (some a) (n*s) ys) (h1:∀ u∈ys,u.oneCell'=true) (hn:0<n) :
 ∃ w',(Builtin.copy_ #[t,t] rt #[.slice (some ⟨g,0,none⟩) n c,.slice (some a) n sc]).run P w = .ok (.int .i64 (n:Nat)) w'∧w'.ownsRow base e s (.slice (some ⟨g,0,none⟩) n c) n ys∧Keep [g] w w':=by
 obtain ⟨i,hi,hz,hsz,hby⟩:=E.info
 have hpos:=Nat.mul_pos hn E.pos
 obtain ⟨b,o',ha,hb,hc⟩:=hr.2 hpos
 cases ha
 rcases hown.2 with ⟨he,h0'⟩ | ⟨g',cap,cur,he,hbg,hg,hnc,hcm,hs,ht⟩
 · cases he
 · cases he
   have hl:=run_loadCells_list (P:=P) w ⟨b,o',none⟩ ys (fun j v hv=>by rw [Addr.add_mid];exact hc j v hv)
   have hns:n*s≤c*s:=Nat.mul_le_mul_right _ hnc
   have hst:=run_storeCells_at P g 0 e ys 0 cur w hg (by rw [hr.1];omega) h1
   have hcs:cur.size=c*s:=hs
   refine ⟨w.setRow g (cur.toList.take 0++ys++cur.toList.drop (0+ys.length)).toArray,?_,⟨hr.1,.inr ⟨g,c,_,rfl,hbg,setRow_heap w g cur _ e _ hg,hnc,hcm,?_,?_⟩⟩,⟨rfl,rfl,rfl,by simp [World.setRow],fun k hk hn=>setRow_other w g k _ (by simpa [eq_comm] using hn)⟩⟩
   · have hl':=hl
     rw [hr.1] at hl'
     simp [Builtin.copy_,run_underlying E.und,Builtin.lenOf,Builtin.firstCells,sizeOf,typeInfo,hi,hsz,hl',hst]
     rfl
   · simp [hr.1,hcs];omega
   · simp [hr.1]
theorem ElemN.wp_copyAll (E:ElemN P t e z s bytes) {w:World} {ops:Array Oper} {rest:List Oper} {o:Oper} {a:Act} {Q:Exit→Act→World→Prop} (hgd:o.guard=none) (d x:Operand)
 (ho:o.op = .call { callee := .builtin .copy,args:=#[d,x],argTypes:=#[t,t] })
 (base g c n:Nat) (xs:List Value) (hd:a.eval d = .slice (some ⟨g,0,none⟩) n c) (hown:w.ownsRow base e s (.slice (some ⟨g,0,none⟩) n c) n xs)
 (ad:Addr) (sc:Nat) (ys:List Value) (hx:a.eval x = .slice (some ad) n sc) (hr:Rd w (some ad) (n*s) ys) (h1:∀ u∈ys,u.oneCell'=true) (hn:0<n)
 (h:∀ w',w'.ownsRow base e s (.slice (some ⟨g,0,none⟩) n c) n ys→Keep [g] w w'→wpList P ops Q rest (a.put o.dst (.int .i64 (n:Nat))) w'):wpList P ops Q (o :: rest) a w:=
 wpList_plain hgd fun K hK=>by
  obtain ⟨w',hrun,h2,h3⟩:=E.run_copyAll w o.type base g c n xs hown ad sc ys hr h1 hn
  unfold Oper.wp execOp
  simp only [ho,resolve,invoke,builtin,Sem.run_bind,Sem.run_pure,Result.andThen_ok,List.map_toArray,List.map_cons,List.map_nil,hd,hx,hrun]
  exact hK _ _ (h w' h2 h3)
end
theorem elemUse:ElemN Tryz.prog 171 220 (.agg #[.int .i64 0,.int .i64 0]) 2 16:=ElemN.of Tryz.underlying171 (by kernel_rfl) rfl (by omega)
theorem elemIntsN:ElemN Tryz.prog 75 3 (.int .i64 0) 1 8:=ElemN.of Tryz.underlying75 (by kernel_rfl) rfl (by omega)
theorem KAC (us:List (Nat×Nat)):∀ u∈us.flatMap Xv,u.oneCell'=true:=by
 intro u hu
 obtain ⟨p,-,hp⟩:=List.mem_flatMap.1 hu
 simp [Xv] at hp
 rcases hp with rfl | rfl <;> rfl
theorem XAp (w:World) (g B:Nat) (hg:GeomAt w g B) (s sc:Nat) (us:List (Nat×Nat)) (hs:Rd w (some ⟨s,0,none⟩) (8*2) (us.flatMap Xv)) (hul:us.length=8) (huo:∀ u∈us,u.1≤2∧u.2≤2147483647) :
 Calls Tryz.prog 103 #[.pointer (some ⟨g,0,none⟩),.slice (some ⟨s,0,none⟩) 8 sc] w fun e w'=>∃ t F,e = .returned (.pointer (some ⟨t,0,none⟩))∧TableAt w' w.heap.size t g F us (List.replicate 8 0)∧Keep [] w w':=by
 have hC:=ConfigG_is w g B hg
 have hfd:=fun W=>JF (P:=Tryz.prog) Tryz.underlying28 1 rfl Tryz.isAgg3 #[.int .i64 B,.int .i64 8,.int .i64 24] rfl W
 have HL:=JC hul
 clear hul
 go_enter Tryz.func103,Tryz.ntmps103
 go_wp2_with (refine hC.mono ?_;clear hC;rintro e w1 ⟨rfl,hk1⟩)
 go_loopw [7,27] (fun _ i wr=>∃ k:Nat,k≤8∧i = .int .i64 k∧Keep [] w wr) (fun _ i _=>8-(intOf i).toNat)
 case atStart=>exact ⟨0,Nat.zero_le _,rfl,hk1⟩
 case round=>
  clear hk1
  obtain ⟨k,hk,rfl,hK⟩:=hrel
  by_cases hlt:k<8
  · have hkl:k<us.length:=by rw [JA HL];exact hlt
    have hltI:((k:Nat):Int)<8:=by omega
    have hsl:s<wr.heap.size:=(VJ ZH (hs.keep hK) hkl (j:=0) (by omega)).1
    have d0:=(VJ ZH (hs.keep hK) hkl (j:=0) (by omega)).2
    have d1:=(VJ ZH (hs.keep hK) hkl (j:=1) (by omega)).2
    obtain ⟨u1,u2⟩:=huo _ (List.getElem_mem hkl)
    generalize us[k]=u at *
    obtain ⟨x,y⟩:=u
    simp only [Xv,List.getElem?_cons_zero,List.getElem?_cons_succ,Nat.add_zero] at d0 d1 u1 u2
    have u1I:((x:Nat):Int)≤2:=by omega
    have u2I:((y:Nat):Int)≤2147483647:=by omega
    go_wp2_with fail
    go_roundw
    case rel=>exact ⟨k+1,by omega,by go_num,hK.alloc _⟩
    case measure=>simp [intOf];omega
  · obtain rfl:8=k:=by omega
    have hKr:=hK
    clear hK hfd
    go_wp2_with fail
    refine wp_region_rt (fun w'=>Keep [] w w') 5 (.held 0 (.held 1 (.held 3 (.two 2 (.loud 4 .nil) 4 (.loud 2 .nil)))))
     (by kernel_rfl) (by kernel_rfl) (fun _ _ d _ _ h=>by cases d <;> exact h) hKr.drew ?_
    simp only [RT.pick,PJ]
    iterate 3 (refine wpR_held ?_ (by rfl) ?_ ?_;rotate_left;(focus (intro W hW;go_simp;try with_reducible rfl));simp only [Act.put,PU])
    refine wpR_two ?_ ?_
    · refine wpR_loud (by rfl) (fun K hK=>?_)
      refine elemUse.wp1_make _ _ rfl .i64 .i64 8 rfl rfl (by omega) (by omega) ?_
      intro w2 g2 hg2 hs2 hb2 hk2
      refine hK _ _ (hKr.drew.trans0 hk2) ?_
      clear hK K
      try simp only [Act.put,PU]
      refine wpR_loud (by rfl) (fun K hK=>?_)
      refine elemIntsN.wp1_make _ _ rfl .i64 .i64 8 rfl rfl (by omega) (by omega) ?_
      intro w3 g3 hg3 hs3 hb3 hk3
      refine hK _ _ ((hKr.drew.trans0 hk2).trans0 hk3) ?_
      clear hK K
      try simp only [Act.put,PU]
      refine wpR_nil ?_
      have HK:=(hKr.drew.trans0 hk2).trans0 hk3
      have HB2:=hb2.keep0 hk3
      have HB3:=hb3
      have HG2:w.heap.size≤g2:=by rw [hg2];exact hKr.drew.size
      have HG3:w.heap.size≤g3:=by rw [hg3];exact (hKr.drew.trans0 hk2).size
      have hL:w3.ownsRow w.heap.size 220 2 (.slice (some ⟨g2,0,none⟩) 8 8) 8 (List.replicate 16 (.int .i64 0)):=VI (s:=2) (z := .int .i64 0) HB2 (by omega) HG2 (by omega) (by simp) rfl
      have hV:w3.ownsRow w.heap.size 3 1 (.slice (some ⟨g3,0,none⟩) 8 8) 8 (VO (List.replicate 8 0)):=VI (s:=1) (z := .int .i64 0) HB3 (by omega) HG3 (by omega) (by simp [VO]) rfl
      clear hg2 hs2 hg3 hs3 HB2 HB3
      have hL':=ZD hL (.cells #[.pointer (some ⟨g,0,none⟩),.slice (some ⟨g2,0,none⟩) 8 8,.slice (some ⟨g3,0,none⟩) 8 8] 218)
      have hV':=ZD hV (.cells #[.pointer (some ⟨g,0,none⟩),.slice (some ⟨g2,0,none⟩) 8 8,.slice (some ⟨g3,0,none⟩) 8 8] 218)
      have hbT:=Blk.new w3 218 #[.pointer (some ⟨g,0,none⟩),.slice (some ⟨g2,0,none⟩) 8 8,.slice (some ⟨g3,0,none⟩) 8 8]
      have hkT:=HK.alloc (.cells #[.pointer (some ⟨g,0,none⟩),.slice (some ⟨g2,0,none⟩) 8 8,.slice (some ⟨g3,0,none⟩) 8 8] 218)
      have hsT:=hs.keep hkT
      have hg23:g2≠g3:=fun e=>own_ne hL hV (by decide) rfl (by simp [Value.ownBlock,e])
      have hg2lt:=JV hL g2 (by simp [Value.ownBlock])
      have hg3lt:=JV hV g3 (by simp [Value.ownBlock])
      have hN3:w3.heap.size≠g2:=by omega
      have hN4:w3.heap.size≠g3:=by omega
      clear hg2lt hg3lt
      go_wp2_with (refine elemUse.wp_copyAll rfl (.tmp 60) (.tmp 61) rfl w.heap.size g2 8 8 _ rfl hL' _ sc _ rfl hsT (KAC us) (by omega) ?_;rintro w5 hL5 hk5)
      go_ret
      refine ⟨w3.heap.size,w3.heap.size :: ((Value.slice (some ⟨g2,0,none⟩) 8 8).ownBlock.toList++(Value.slice (some ⟨g3,0,none⟩) 8 8).ownBlock.toList),rfl,⟨_,_,hbT.keep hk5 (by simpa using hN3),hL5,QB hV' hk5 (fun x hx=>by simp [Value.ownBlock] at hx;subst hx;simpa using fun e=>hg23 e.symm),rfl,HK.size,JA HL,huo,fun x hx=>by have:=List.eq_of_mem_replicate hx;omega⟩,hkT.trans hk5 (fun x hx => .inr (by simp at hx;omega))⟩
    · refine wpR_loud (by rfl) (fun K hK=>?_)
      refine elemIntsN.wp1_make _ _ rfl .i64 .i64 8 rfl rfl (by omega) (by omega) ?_
      intro w2 g3 hg3 hs3 hb3 hk2
      refine hK _ _ (hKr.drew.trans0 hk2) ?_
      clear hK K
      try simp only [Act.put,PU]
      refine wpR_loud (by rfl) (fun K hK=>?_)
      refine elemUse.wp1_make _ _ rfl .i64 .i64 8 rfl rfl (by omega) (by omega) ?_
      intro w3 g2 hg2 hs2 hb2 hk3
      refine hK _ _ ((hKr.drew.trans0 hk2).trans0 hk3) ?_
      clear hK K
      try simp only [Act.put,PU]
      refine wpR_nil ?_
      have HK:=(hKr.drew.trans0 hk2).trans0 hk3
      have HB2:=hb2
      have HB3:=hb3.keep0 hk3
      have HG3:w.heap.size≤g3:=by rw [hg3];exact hKr.drew.size
      have HG2:w.heap.size≤g2:=by rw [hg2];exact (hKr.drew.trans0 hk2).size
      have hL:w3.ownsRow w.heap.size 220 2 (.slice (some ⟨g2,0,none⟩) 8 8) 8 (List.replicate 16 (.int .i64 0)):=VI (s:=2) (z := .int .i64 0) HB2 (by omega) HG2 (by omega) (by simp) rfl
      have hV:w3.ownsRow w.heap.size 3 1 (.slice (some ⟨g3,0,none⟩) 8 8) 8 (VO (List.replicate 8 0)):=VI (s:=1) (z := .int .i64 0) HB3 (by omega) HG3 (by omega) (by simp [VO]) rfl
      clear hg2 hs2 hg3 hs3 HB2 HB3
      have hL':=ZD hL (.cells #[.pointer (some ⟨g,0,none⟩),.slice (some ⟨g2,0,none⟩) 8 8,.slice (some ⟨g3,0,none⟩) 8 8] 218)
      have hV':=ZD hV (.cells #[.pointer (some ⟨g,0,none⟩),.slice (some ⟨g2,0,none⟩) 8 8,.slice (some ⟨g3,0,none⟩) 8 8] 218)
      have hbT:=Blk.new w3 218 #[.pointer (some ⟨g,0,none⟩),.slice (some ⟨g2,0,none⟩) 8 8,.slice (some ⟨g3,0,none⟩) 8 8]
      have hkT:=HK.alloc (.cells #[.pointer (some ⟨g,0,none⟩),.slice (some ⟨g2,0,none⟩) 8 8,.slice (some ⟨g3,0,none⟩) 8 8] 218)
      have hsT:=hs.keep hkT
      have hg23:g2≠g3:=fun e=>own_ne hL hV (by decide) rfl (by simp [Value.ownBlock,e])
      have hg2lt:=JV hL g2 (by simp [Value.ownBlock])
      have hg3lt:=JV hV g3 (by simp [Value.ownBlock])
      have hN3:w3.heap.size≠g2:=by omega
      have hN4:w3.heap.size≠g3:=by omega
      clear hg2lt hg3lt
      go_wp2_with (refine elemUse.wp_copyAll rfl (.tmp 60) (.tmp 61) rfl w.heap.size g2 8 8 _ rfl hL' _ sc _ rfl hsT (KAC us) (by omega) ?_;rintro w5 hL5 hk5)
      go_ret
      refine ⟨w3.heap.size,w3.heap.size :: ((Value.slice (some ⟨g2,0,none⟩) 8 8).ownBlock.toList++(Value.slice (some ⟨g3,0,none⟩) 8 8).ownBlock.toList),rfl,⟨_,_,hbT.keep hk5 (by simpa using hN3),hL5,QB hV' hk5 (fun x hx=>by simp [Value.ownBlock] at hx;subst hx;simpa using fun e=>hg23 e.symm),rfl,HK.size,JA HL,huo,fun x hx=>by have:=List.eq_of_mem_replicate hx;omega⟩,hkT.trans hk5 (fun x hx => .inr (by simp at hx;omega))⟩
end
end Go.Proofs.YtmoagodllhdemaaGreat
