/- Lemmas of the proof, with their conditions. -/
import Derived.Test.YthgphmfipnjllaaGreatV32
import Derived.Test.YthgphmfipnjllaaGreatV18
namespace Go.Proofs.YthgphmfipnjllaaGreat
set_option linter.unusedSimpArgs false
set_option linter.unusedVariables false
set_option maxHeartbeats 2000000
set_option maxRecDepth 20000
section
open Go.RowKit
section
variable {P:Program} {t e:TypeId} {z:Value} {s bytes:Nat}
theorem ElemN.run_copyAll (E:ElemN P t e z s bytes) (w:World) (rt:TypeId) (base g c n:Nat) (xs:List Value) (hown:w.ownsRow base e s (.slice (some ⟨g,0,none⟩) n c) n xs)
 (a:Addr) (sc:Nat) (ys:List Value) (hr:Rd w (some a) (n*s) ys) (h1:∀ u∈ys,u.oneCell'=true) (hn:0<n) :
 ∃ w',(Builtin.copy_ #[t,t] rt #[.slice (some ⟨g,0,none⟩) n c,.slice (some a) n sc]).run P w=.ok (.int .i64 (n:Nat)) w'∧w'.ownsRow base e s (.slice (some ⟨g,0,none⟩) n c) n ys∧Keep [g] w w':=by
 obtain⟨i,hi,hz,hsz,hby⟩:=E.info
 have hpos:=Nat.mul_pos hn E.pos
 obtain⟨b,o',ha,hb,hc⟩:=hr.2 hpos
 cases ha
 rcases hown.2 with⟨he,h0'⟩ | ⟨g',cap,cur,he,hbg,hg,hnc,hcm,hs,ht⟩
 · cases he
 · cases he
   have hl:=run_loadCells_list (P:=P) w ⟨b,o',none⟩ ys (fun j v hv=>by rw[Addr.add_mid];exact hc j v hv)
   have hns:n*s≤c*s:=Nat.mul_le_mul_right _ hnc
   have hst:=run_storeCells_at P g 0 e ys 0 cur w hg (by rw[hr.1];omega) h1
   have hcs:cur.size=c*s:=hs
   refine⟨w.setRow g (cur.toList.take 0++ys++cur.toList.drop (0+ys.length)).toArray,?_,⟨hr.1,.inr ⟨g,c,_,rfl,hbg,setRow_heap w g cur _ e _ hg,hnc,hcm,?_,?_⟩⟩,⟨rfl,rfl,rfl,by simp[World.setRow],fun k hk hn=>setRow_other w g k _ (by simpa [eq_comm] using hn)⟩⟩
   · have hl':=hl
     rw[hr.1] at hl'
     simp[Builtin.copy_,run_underlying E.und,Builtin.lenOf,Builtin.firstCells,sizeOf,typeInfo,hi,hsz,hl',hst]
     rfl
   · simp[hr.1,hcs];omega
   · simp[hr.1]
theorem ElemN.wp_copyAll (E:ElemN P t e z s bytes) {w:World} {ops:Array Oper} {rest:List Oper} {o:Oper} {a:Act} {Q:Exit→Act→World→Prop} (hgd:o.guard=none) (d x:Operand)
 (ho:o.op=.call { callee:=.builtin .copy,args:=#[d,x],argTypes:=#[t,t] })
 (base g c n:Nat) (xs:List Value) (hd:a.eval d=.slice (some ⟨g,0,none⟩) n c) (hown:w.ownsRow base e s (.slice (some ⟨g,0,none⟩) n c) n xs)
 (ad:Addr) (sc:Nat) (ys:List Value) (hx:a.eval x=.slice (some ad) n sc) (hr:Rd w (some ad) (n*s) ys) (h1:∀ u∈ys,u.oneCell'=true) (hn:0<n)
 (h:∀ w',w'.ownsRow base e s (.slice (some ⟨g,0,none⟩) n c) n ys→Keep [g] w w'→wpList P ops Q rest (a.put o.dst (.int .i64 (n:Nat))) w'):wpList P ops Q (o :: rest) a w:=
 wpList_plain hgd fun K hK=>by
  obtain⟨w',hrun,h2,h3⟩:=E.run_copyAll w o.type base g c n xs hown ad sc ys hr h1 hn
  unfold Oper.wp execOp
  simp only[ho,resolve,invoke,builtin,Sem.run_bind,Sem.run_pure,Result.andThen_ok,List.map_toArray,List.map_cons,List.map_nil,hd,hx,hrun]
  exact hK _ _ (h w' h2 h3)
end
theorem elemUse:ElemN Tryz.prog 152 166 (.agg #[.int .i64 0,.int .i64 0]) 2 16:=ElemN.of Tryz.underlying152 (by kernel_rfl) rfl (by omega)
theorem elemIntsN:ElemN Tryz.prog 22 3 (.int .i64 0) 1 8:=ElemN.of Tryz.underlying22 (by kernel_rfl) rfl (by omega)
theorem Ju (us:List (Nat×Nat)):∀ u∈us.flatMap Jk,u.oneCell'=true:=by
 intro u hu
 obtain⟨p,-,hp⟩:=List.mem_flatMap.1 hu
 simp[Jk] at hp
 rcases hp with rfl | rfl <;> rfl
theorem QBA (w:World) (g B:Nat) (hg:GeomAt w g B) (s sc:Nat) (us:List (Nat×Nat)) (hs:Rd w (some ⟨s,0,none⟩) (8*2) (us.flatMap Jk)) (hul:us.length=8) (huo:∀ u∈us,u.1≤2∧u.2≤2147483647) :
 Calls Tryz.prog 128 #[.pointer (some ⟨g,0,none⟩),.slice (some ⟨s,0,none⟩) 8 sc] w fun e w'=>∃ t F,e=.returned (.pointer (some ⟨t,0,none⟩))∧TableAt w' w.heap.size t g F us (List.replicate 8 0)∧Keep [] w w':=by
 have hC:=ConfigG_is w g B hg
 have hfd:=fun W=>VF (P:=Tryz.prog) Tryz.underlying27 1 rfl Tryz.isAgg3 #[.int .i64 B,.int .i64 8,.int .i64 24] rfl W
 have HL:=ZB hul
 clear hul
 go_enter Tryz.func128,Tryz.ntmps128
 go_wp2_with (refine hC.mono ?_;clear hC;rintro e w1 ⟨rfl,hk1⟩)
 go_loopw [7,27] (fun _ i wr=>∃ k:Nat,k≤8∧i=.int .i64 k∧Keep [] w wr) (fun _ i _=>8-(intOf i).toNat)
 case atStart=>exact⟨0,Nat.zero_le _,rfl,hk1⟩
 case round=>
  clear hk1
  obtain⟨k,hk,rfl,hK⟩:=hrel
  by_cases hlt:k<8
  · have hkl:k<us.length:=by rw[QA HL];exact hlt
    have hltI:((k:Nat):Int)<8:=by omega
    have hsl:s<wr.heap.size:=(YC XG (hs.keep hK) hkl (j:=0) (by omega)).1
    have d0:=(YC XG (hs.keep hK) hkl (j:=0) (by omega)).2
    have d1:=(YC XG (hs.keep hK) hkl (j:=1) (by omega)).2
    obtain⟨u1,u2⟩:=huo _ (List.getElem_mem hkl)
    generalize us[k]=u at *
    obtain⟨x,y⟩:=u
    simp only[Jk,List.getElem?_cons_zero,List.getElem?_cons_succ,Nat.add_zero] at d0 d1 u1 u2
    have u1I:((x:Nat):Int)≤2:=by omega
    have u2I:((y:Nat):Int)≤2147483647:=by omega
    go_wp2_with fail
    go_roundw
    case rel=>exact⟨k+1,by omega,by go_num,hK.alloc _⟩
    case measure=>simp[intOf];omega
  · obtain rfl:8=k:=by omega
    have hKr:=hK
    clear hK hfd
    go_wp2_with fail
    refine ZR (fun w'=>Keep [] w w') 5 (.held 0 (.held 1 (.held 3 (.two 2 (.loud 4 .nil) 4 (.loud 2 .nil))))) hKr.drew ?_
    simp only[RT.pick,PJ]
    iterate 3 (refine ZK ?_;simp only[Act.put,PU])
    refine wpR_two ?_ ?_
    · refine wpR_loud (by rfl) (fun K hK=>?_)
      refine elemUse.wp1_make _ _ rfl .i64 .i64 8 rfl rfl (by omega) (by omega) ?_
      intro w2 g2 hg2 hs2 hb2 hk2
      refine hK _ _ (hKr.drew.trans0 hk2) ?_
      clear hK K
      try simp only[Act.put,PU]
      refine wpR_loud (by rfl) (fun K hK=>?_)
      refine elemIntsN.wp1_make _ _ rfl .i64 .i64 8 rfl rfl (by omega) (by omega) ?_
      intro w3 g3 hg3 hs3 hb3 hk3
      refine hK _ _ ((hKr.drew.trans0 hk2).trans0 hk3) ?_
      clear hK K
      try simp only[Act.put,PU]
      refine wpR_nil ?_
      have HK:=(hKr.drew.trans0 hk2).trans0 hk3
      have HB2:=hb2.keep0 hk3
      have HB3:=hb3
      have HG2:w.heap.size≤g2:=by rw[hg2];exact hKr.drew.size
      have HG3:w.heap.size≤g3:=by rw[hg3];exact(hKr.drew.trans0 hk2).size
      have hL:w3.ownsRow w.heap.size 166 2 (.slice (some ⟨g2,0,none⟩) 8 8) 8 (List.replicate 16 (.int .i64 0)):=XL (s:=2) (z:=.int .i64 0) HB2 (by omega) HG2 (by omega) (by simp) rfl
      have hV:w3.ownsRow w.heap.size 3 1 (.slice (some ⟨g3,0,none⟩) 8 8) 8 (ZP (List.replicate 8 0)):=XL (s:=1) (z:=.int .i64 0) HB3 (by omega) HG3 (by omega) (by simp[ZP]) rfl
      clear hg2 hs2 hg3 hs3 HB2 HB3
      have hL':=YD hL (.cells #[.pointer (some ⟨g,0,none⟩),.slice (some ⟨g2,0,none⟩) 8 8,.slice (some ⟨g3,0,none⟩) 8 8] 154)
      have hV':=YD hV (.cells #[.pointer (some ⟨g,0,none⟩),.slice (some ⟨g2,0,none⟩) 8 8,.slice (some ⟨g3,0,none⟩) 8 8] 154)
      have hbT:=Blk.new w3 154 #[.pointer (some ⟨g,0,none⟩),.slice (some ⟨g2,0,none⟩) 8 8,.slice (some ⟨g3,0,none⟩) 8 8]
      have hkT:=HK.alloc (.cells #[.pointer (some ⟨g,0,none⟩),.slice (some ⟨g2,0,none⟩) 8 8,.slice (some ⟨g3,0,none⟩) 8 8] 154)
      have hsT:=hs.keep hkT
      have hg23:g2≠g3:=fun e=>own_ne hL hV (by decide) rfl (by simp[Value.ownBlock,e])
      have hg2lt:=YY hL g2 (by simp[Value.ownBlock])
      have hg3lt:=YY hV g3 (by simp[Value.ownBlock])
      have hN3:w3.heap.size≠g2:=by omega
      have hN4:w3.heap.size≠g3:=by omega
      clear hg2lt hg3lt
      go_wp2_with (refine elemUse.wp_copyAll rfl (.tmp 60) (.tmp 61) rfl w.heap.size g2 8 8 _ rfl hL' _ sc _ rfl hsT (Ju us) (by omega) ?_;rintro w5 hL5 hk5)
      go_ret
      refine⟨w3.heap.size,w3.heap.size :: ((Value.slice (some ⟨g2,0,none⟩) 8 8).ownBlock.toList++(Value.slice (some ⟨g3,0,none⟩) 8 8).ownBlock.toList),rfl,⟨_,_,hbT.keep hk5 (by simpa using hN3),hL5,KA hV' hk5 (fun x hx=>by simp[Value.ownBlock] at hx;subst hx;simpa using fun e=>hg23 e.symm),rfl,HK.size,QA HL,huo,fun x hx=>by have:=List.eq_of_mem_replicate hx;omega⟩,hkT.trans hk5 (fun x hx=>.inr (by simp at hx;omega))⟩
    · refine wpR_loud (by rfl) (fun K hK=>?_)
      refine elemIntsN.wp1_make _ _ rfl .i64 .i64 8 rfl rfl (by omega) (by omega) ?_
      intro w2 g3 hg3 hs3 hb3 hk2
      refine hK _ _ (hKr.drew.trans0 hk2) ?_
      clear hK K
      try simp only[Act.put,PU]
      refine wpR_loud (by rfl) (fun K hK=>?_)
      refine elemUse.wp1_make _ _ rfl .i64 .i64 8 rfl rfl (by omega) (by omega) ?_
      intro w3 g2 hg2 hs2 hb2 hk3
      refine hK _ _ ((hKr.drew.trans0 hk2).trans0 hk3) ?_
      clear hK K
      try simp only[Act.put,PU]
      refine wpR_nil ?_
      have HK:=(hKr.drew.trans0 hk2).trans0 hk3
      have HB2:=hb2
      have HB3:=hb3.keep0 hk3
      have HG3:w.heap.size≤g3:=by rw[hg3];exact hKr.drew.size
      have HG2:w.heap.size≤g2:=by rw[hg2];exact(hKr.drew.trans0 hk2).size
      have hL:w3.ownsRow w.heap.size 166 2 (.slice (some ⟨g2,0,none⟩) 8 8) 8 (List.replicate 16 (.int .i64 0)):=XL (s:=2) (z:=.int .i64 0) HB2 (by omega) HG2 (by omega) (by simp) rfl
      have hV:w3.ownsRow w.heap.size 3 1 (.slice (some ⟨g3,0,none⟩) 8 8) 8 (ZP (List.replicate 8 0)):=XL (s:=1) (z:=.int .i64 0) HB3 (by omega) HG3 (by omega) (by simp[ZP]) rfl
      clear hg2 hs2 hg3 hs3 HB2 HB3
      have hL':=YD hL (.cells #[.pointer (some ⟨g,0,none⟩),.slice (some ⟨g2,0,none⟩) 8 8,.slice (some ⟨g3,0,none⟩) 8 8] 154)
      have hV':=YD hV (.cells #[.pointer (some ⟨g,0,none⟩),.slice (some ⟨g2,0,none⟩) 8 8,.slice (some ⟨g3,0,none⟩) 8 8] 154)
      have hbT:=Blk.new w3 154 #[.pointer (some ⟨g,0,none⟩),.slice (some ⟨g2,0,none⟩) 8 8,.slice (some ⟨g3,0,none⟩) 8 8]
      have hkT:=HK.alloc (.cells #[.pointer (some ⟨g,0,none⟩),.slice (some ⟨g2,0,none⟩) 8 8,.slice (some ⟨g3,0,none⟩) 8 8] 154)
      have hsT:=hs.keep hkT
      have hg23:g2≠g3:=fun e=>own_ne hL hV (by decide) rfl (by simp[Value.ownBlock,e])
      have hg2lt:=YY hL g2 (by simp[Value.ownBlock])
      have hg3lt:=YY hV g3 (by simp[Value.ownBlock])
      have hN3:w3.heap.size≠g2:=by omega
      have hN4:w3.heap.size≠g3:=by omega
      clear hg2lt hg3lt
      go_wp2_with (refine elemUse.wp_copyAll rfl (.tmp 60) (.tmp 61) rfl w.heap.size g2 8 8 _ rfl hL' _ sc _ rfl hsT (Ju us) (by omega) ?_;rintro w5 hL5 hk5)
      go_ret
      refine⟨w3.heap.size,w3.heap.size :: ((Value.slice (some ⟨g2,0,none⟩) 8 8).ownBlock.toList++(Value.slice (some ⟨g3,0,none⟩) 8 8).ownBlock.toList),rfl,⟨_,_,hbT.keep hk5 (by simpa using hN3),hL5,KA hV' hk5 (fun x hx=>by simp[Value.ownBlock] at hx;subst hx;simpa using fun e=>hg23 e.symm),rfl,HK.size,QA HL,huo,fun x hx=>by have:=List.eq_of_mem_replicate hx;omega⟩,hkT.trans hk5 (fun x hx=>.inr (by simp at hx;omega))⟩
end
section
open Go.RowKit
end
section
open Go.RowKit
theorem Xz (A:Option Addr) (n c:Nat) (us:List (Nat×Nat)) (w:World) (ha:Rd w A (n*2) (us.flatMap Jk)) (hn:n≤1000000) :
 Calls Tryz.prog 249 #[.slice A n c] w fun e w'=>∃ v,e=.returned v∧w'.ownsRow w.heap.size 166 2 v n (us.flatMap Jk)∧Keep [] w w':=by
 have heq:=fun(W:World)=>Lib.run_eql_slice_nil (P:=Tryz.prog) W 152 166 A n c 0 0 Tryz.underlying152
 have hl:=ha.1
 rcases A with _ | ad
 · obtain rfl:n=0:=by
    rcases Nat.eq_zero_or_pos n with e | e
    · exact e
    · obtain⟨b,o,h,_⟩:=ha.2 (by omega)
      cases h
   obtain h0:us.flatMap Jk=[]:=List.eq_nil_of_length_eq_zero (by rw[hl])
   rw[h0]
   go_enter Tryz.func249,Tryz.ntmps249
   go_wp2
   go_ret
   exact⟨_,rfl,World.ownsRow_nil _ _ _ _,Keep.refl _ _⟩
 · have hr:=ha.keep ((Keep.refl _ w).alloc (.cells #[] 166))
   have ho:(w.alloc (.cells #[] 166)).ownsRow w.heap.size 166 2 (.slice (some ⟨w.heap.size,0,none⟩) 0 0) 0 []:=World.ownsRow_made _ _ _ (Nat.le_refl _) (by simp[maxLen]) rfl
   clear hl
   go_enter Tryz.func249,Tryz.ntmps249
   go_wp2_with (at_builtin;refine elemUse.wp_app rfl _ _ rfl w.heap.size _ 0 [] rfl ho ad n c (us.flatMap Jk) rfl hr (Ju us) (by omega) (by omega) (by simp) ?_)
   intro v' w' hown hk _ _
   go_wp2
   go_ret
   exact⟨_,rfl,by simpa using hown,((Keep.refl _ w).alloc _).trans hk (by simp[Value.ownBlock])⟩
end
section
open Go.RowKit Go.Shelf
theorem QAh (w:World) (base t g:Nat) (F:List Nat) (us:List (Nat×Nat)) (lv:List Nat) (h:TableAt w base t g F us lv) (s:Nat) (hs:s<8) :
 Calls Tryz.prog 30 #[.pointer (some ⟨t,0,none⟩),.int .i64 (s:Nat)] w fun e w'=>e=.returned (.int .i64 ((us.getD s (0,0)).1:Nat))∧w=w':=by
 obtain⟨L,V,h⟩:=h
 obtain⟨l,lc,v,vc,rfl,rfl,hlv,htl,htv⟩:=h.forms
 obtain⟨c0,c1,c2⟩:=h.cells
 have hH:=Xn w base t g _ _ F us lv h s hs
 have hu:=(h.use s hs).1
 rw[← QJ (by rw[h.ulen];exact hs)] at hu
 have hl:=(own_mem h.l (g:=l) (by simp[Value.ownBlock])).2
 generalize (us.getD s (0,0)).1=y at *
 go_enter Tryz.func30,Tryz.ntmps30
 go_wp2_with (refine hH.mono ?_;clear hH;rintro e w' ⟨rfl,rfl⟩)
 go_ret
 exact⟨rfl,rfl⟩
theorem YAo (w:World) (base t g:Nat) (F:List Nat) (us:List (Nat×Nat)) (lv:List Nat) (h:TableAt w base t g F us lv) (s:Nat) (hs:s<8) :
 Calls Tryz.prog 26 #[.pointer (some ⟨t,0,none⟩),.int .i64 (s:Nat)] w fun e w'=>e=.returned (.int .i64 (lv.getD s 0:Nat))∧w=w':=by
 obtain⟨L,V,h⟩:=h
 obtain⟨l,lc,v,vc,rfl,rfl,hlv,htl,htv⟩:=h.forms
 obtain⟨c0,c1,c2⟩:=h.cells
 have hH:=Xn w base t g _ _ F us lv h s hs
 have hu:=h.liveOf s hs
 have hg:lv[s]'(by rw[h.llen];exact hs)=lv.getD s 0:=by rw[List.getD_eq_getElem?_getD,List.getElem?_eq_getElem (by rw[h.llen];exact hs)];rfl
 rw[hg] at hu
 have hl:=(own_mem h.live (g:=v) (by simp[Value.ownBlock])).2
 generalize lv.getD s 0=y at *
 go_enter Tryz.func26,Tryz.ntmps26
 go_wp2_with (refine hH.mono ?_;clear hH;rintro e w' ⟨rfl,rfl⟩)
 go_ret
 exact⟨rfl,rfl⟩
theorem YAh (w:World) (base t g:Nat) (F:List Nat) (us:List (Nat×Nat)) (lv:List Nat) (h:TableAt w base t g F us lv) :
 Calls Tryz.prog 149 #[.pointer (some ⟨t,0,none⟩),.bool false] w fun e w'=>∃ u c,e=.returned (.slice (some ⟨u,0,none⟩) 8 c)∧8≤c∧w'.ownsRow w.heap.size 166 2 (.slice (some ⟨u,0,none⟩) 8 c) 8 (us.flatMap Jk)∧Keep [] w w':=by
 obtain⟨L,V,h⟩:=h
 obtain⟨l,lc,v,vc,rfl,rfl,hlv,htl,htv⟩:=h.forms
 obtain⟨c0,c1,c2⟩:=h.cells
 have hC:=Xz (some ⟨l,0,none⟩) 8 lc us w (Rd.of_ownN h.l) (by omega)
 go_enter Tryz.func149,Tryz.ntmps149
 go_wp2_with (
  refine hC.mono ?_
  clear hC
  rintro e w1 ⟨u0,rfl,hu,hk1⟩
  obtain⟨u,uc,rfl,huc⟩:=QD hu (by omega))
 go_loopw [6,16] (fun _ i wr=>∃ k:Nat,k≤8∧i=.int .i64 (k:Nat)∧wr.ownsRow w.heap.size 166 2 (.slice (some ⟨u,0,none⟩) 8 uc) 8 (us.flatMap Jk)∧Keep [] w wr) (fun _ i _=>8-(intOf i).toNat)
 case atStart=>exact⟨0,by omega,rfl,hu,hk1⟩
 case round=>
  clear hu hk1
  obtain⟨k,hk,rfl,hO,hkp⟩:=hrel
  by_cases hlt:k<8
  · have hkI:((k:Nat):Int)<8:=by omega
    go_wp2
    go_roundw
    case rel=>exact⟨k+1,by omega,by go_num,hO,hkp⟩
    case measure=>simp[intOf];omega
  · obtain rfl:k=8:=by omega
    go_wp2
    go_ret
    exact⟨u,uc,rfl,huc.1,hO,hkp⟩
end
end Go.Proofs.YthgphmfipnjllaaGreat
