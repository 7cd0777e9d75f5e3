/- Lemmas of the proof, with their conditions. -/
import Derived.Test.YthgphmfipnjllaaGreatV04
import Derived.Great.Walk
namespace Go.Proofs.YthgphmfipnjllaaGreat
set_option linter.unusedSimpArgs false
set_option linter.unusedVariables false
set_option maxHeartbeats 1000000
set_option maxRecDepth 20000
section
open Go.RowKit
theorem elemWrite:ElemN Tryz.prog 171 250 (.agg ((.int .i64 0 :: List.replicate 64 (.int .u8 0)).toArray)) 65 72:=ElemN.of Tryz.underlying171 (by kernel_rfl) rfl (by omega)
theorem YAZ (a:Option Addr) (len c:Nat) (h:64≤len) (W:World):(Instr.arrayAt 248 (.slice a len c)).run Tryz.prog W=.ok (.pointer a) W:=Go.run_arrayAt (P:=Tryz.prog) W _ _ 64 a len c Tryz.underlying248 h
theorem JAD (z:Int) (bs:List UInt8) (hl:bs.length=64) (W:World):(Instr.build 250 #[(0,.int .i64 z),(1,.agg (bys bs).toArray)]).run Tryz.prog W=.ok (.agg (Value.int .i64 z :: bys bs).toArray) W:=by
 refine run_build W _ _ _ ?_
 rw[show (#[(0,Value.int .i64 z),(1,.agg (bys bs).toArray)]:Array (Nat×Value)).toList=[(0,.int .i64 z),(1,.agg (bys bs).toArray)] from rfl]
 rw[Vz [(0,1),(1,64)] (.agg ((.int .i64 0 :: List.replicate 64 (.int .u8 0)).toArray)) Tryz.underlying250 (by kernel_rfl) (by kernel_rfl)]
 rw[Qo _ _ 0 0 1 _ _ rfl rfl (by simp[Value.cells]),Qo _ _ 1 1 64 _ _ rfl (by simp[Value.cells,hl]) (by simp[Value.cells,laid]),Instr.fill]
 simp[Value.cells,laid,hl]
theorem Zi (z:Int) (bs:List UInt8) (hl:bs.length=64) (W:World):(Instr.buildSlice 171 1 #[(0,.agg (Value.int .i64 z :: bys bs).toArray)]).run Tryz.prog W =
 .ok (.slice (some ⟨W.heap.size,0,none⟩) 1 1) (W.alloc (.cells (Value.int .i64 z :: bys bs).toArray 250)):=by
 obtain⟨i,hi,hz,hs,_⟩:=elemWrite.info
 refine run_buildSlice W _ _ 1 _ _ i _ elemWrite.und hi hz (by rw[hs];decide) (by rw[hs];decide) ?_
 rw[show (#[(0,Value.agg (Value.int .i64 z :: bys bs).toArray)]:Array (Nat×Value)).toList=[(0,.agg (Value.int .i64 z :: bys bs).toArray)] from rfl,hs]
 rw[Qo _ _ 0 0 65 _ _ rfl (by simp[Value.cells,hl]) (by simp),Instr.fill]
 simp[Value.cells,laid,hl]
theorem Qx (xs bs:List UInt8) (k:Nat):laid (bys xs) k (bys bs)=bys (laid xs k bs):=(Vu xs k bs).symm
theorem isRow_block:Tryz.prog.underlying 248=some (.array 64 5):=Tryz.underlying248
theorem Vq (b o:Nat) (bs:List UInt8) (hl:bs.length=64) (W:World) (h:W.rangeAt b o (bys bs)):(Instr.loadAt 248 (.pointer (some ⟨b,o,none⟩))).run Tryz.prog W=.ok (.agg (bys bs).toArray) W:=
 run_loadAt_mid W b o 248 (bys bs) _ h isRow_block rfl (by rw[length_bys,hl];kernel_rfl)
theorem Yk (b o:Nat) (bs:List UInt8) (hl:bs.length=64) (W:World) (h:W.there b o 64):(Instr.storeAt 248 (.pointer (some ⟨b,o,none⟩)) (.agg (bys bs).toArray)).run Tryz.prog W=.ok () (W.setCells b o (bys bs)):=
 run_storeAt_mid W b o 248 (bys bs).toArray (by simpa [hl] using h) (by rw[List.size_toArray,length_bys,hl];kernel_rfl) (all_oneCell_toArray (Ja _))
theorem Qu (w:World) (base d:Nat) (F:List Nat) (D:PDisk) (h:DiskAt w base d F D) (hoff:D.off=false) (hfuse:D.fuse = -1) (ha:D.acts≤1000000000) (k:Nat) (hk:k<D.n) (A:Option Addr) (c:Nat) (bs:List UInt8)
 (hb:Rd w A 64 (bys bs)) (hA:∀ a,A=some a→a.block∉F) (hbase:base≤w.heap.size) :
 Calls Tryz.prog 185 #[.pointer (some ⟨d,0,none⟩),.int .i64 (k:Nat),.slice A 64 c] w fun e w'=>e=.returned (.int .i64 0)∧∃ F',DiskAt w' base d F' (D.write k bs)∧Keep F w w'∧Grow w F F':=by
 obtain⟨S,N,H,U,h⟩:=h
 obtain⟨g,nc,rfl,hnc,hc63⟩:=QD h.now h.pos
 have hH:=YAV w base d S _ H U F D h k hk
 have hT:=VAs w base d S _ H U F D h hoff hfuse ha
 obtain⟨c0,c1,c2,c3,c4,c5,c6⟩:=XH h.blk
 have hbl:bs.length=64:=by simpa using hb.1
 obtain⟨ab,ao,rfl,habl,hrg⟩:=hb.some64 (by omega)
 have habF:ab∉F:=hA _ rfl
 have habd:ab∉[d]:=fun hm=>habF (by rw[h.foot];simp at hm;simp[hm])
 have hfew:=h.few
 have hkI:((k:Nat):Int)<(D.n:Nat):=by omega
 go_enter Tryz.func185,Tryz.ntmps185
 go_wp2_with (first | (refine hH.mono ?_;clear hH;rintro e w' ⟨rfl,rfl⟩) | (refine hT.mono ?_;clear hT;rintro e w1 ⟨rfl,h1,hk1⟩))
 have k2:=(XH h1.blk).2.2.1
 have hrg1:=hk1.range hrg habl habd
 have har:=fun W=>YAZ (some ⟨ab,ao,none⟩) 64 c (Nat.le_refl _) W
 have hl1:=fun W hW=>Vq ab ao bs hbl W hW
 have hbd:=fun W=>JAD k bs hbl W
 have hbs:=fun W=>Zi k bs hbl W
 refine ZT (fun w'=>w'.cell? ⟨d,2,none⟩=some H∧(Instr.loadAt 248 (.pointer (some ⟨ab,ao,none⟩))).run Tryz.prog w'=.ok (.agg (bys bs).toArray) w') 12 [[0,1,2,3,4,5,6,7,8,9],[10],[11]] ⟨k2,hl1 _ hrg1⟩ ?_
 simp only[PI]
 iterate 8 (refine ZH ?_;simp only[Act.put,PU])
 refine KM _ (by rfl) (fun W hW=>ZX _ _ rfl _ rfl hW.2) ?_
 try simp only[Act.put,PU]
 refine KM _ (by rfl) (fun W hW=>ZAN _ _ rfl (hbd W) (by simp only[List.map_toArray,List.map_cons,List.map_nil];rfl)) ?_
 try simp only[Act.put,PU]
 refine XB (by rfl) (fun K hK=>?_)
 refine Jp _ _ _ rfl (hbs _) (by simp only[List.map_toArray,List.map_cons,List.map_nil];rfl) ?_
 have hkB:Keep [] w1 (w1.drew.alloc (.cells (Value.int .i64 k :: bys bs).toArray 250)):=(Keep.refl _ _).drew.alloc _
 have hnew:=Blk.new w1.drew 250 (Value.int .i64 k :: bys bs).toArray
 refine hK _ _ (⟨(XH (h1.keep0 hkB).blk).2.2.1,hl1 _ (hkB.range hrg1 (hk1.lt habl) (by simp))⟩) ?_
 clear hK K
 try simp only[Act.put,PU]
 refine XB (by rfl) (fun K hK=>?_)
 have hbaseW:base≤(w1.drew.alloc (.cells (Value.int .i64 k :: bys bs).toArray 250)).heap.size:=Nat.le_trans hbase (Nat.le_trans hk1.size hkB.size)
 have hrd:=Rd.of_blk hnew (n:=65) (by simp[hbl])
 rw[List.take_of_length_le (by simp[hbl])] at hrd
 have hlen:D.held.length≤1000000000:=Nat.le_trans h.acts ha
 refine elemWrite.wp1_app (.tmp 26) (.tmp 32) (by rfl) base H D.held.length (D.held.flatMap JQ) (by rfl) (ZA h1.held hkB) ⟨w1.drew.heap.size,0,none⟩ 1 1 (Value.int .i64 k :: bys bs) (by rfl) hrd (fun u hu=>by
  rcases List.mem_cons.1 hu with rfl | hu
  · rfl
  · exact Ja _ u hu) (by omega) (by omega) hbaseW ?_
 intro H' w2 hH' hk2 hHb _
 have hk12:Keep H.ownBlock.toList w1 w2:=hkB.zero.trans hk2 (fun x hx=>.inl hx)
 have hfoot:=h.foot
 have habH:ab∉H.ownBlock.toList:=fun hm=>habF (by rw[hfoot];simp at hm;simp[hm])
 have hb2:=h1.blk.keep hk12 h1.dH
 have hrg2:=hk12.range hrg1 (hk1.lt habl) habH
 refine hK _ _ (⟨(XH hb2).2.2.1,hl1 _ hrg2⟩) ?_
 clear hK K
 try simp only[Act.put,PU]
 refine JB ?_
 have q2:=hb2.frozen 2
 have j2:=(XH hb2).2.2.1
 obtain⟨A',c',rfl,_⟩:=QB hH'
 go_wp2_with fail
 have hk23:Keep [d] w2 (w2.setCell ⟨d,2,none⟩ (.slice A' (D.held.length+1) c')):=(Keep.refl _ _).setCell (p:=⟨d,2,none⟩) (.inl (by simp)) _
 have hb3:=hb2.set 2 (.slice A' (D.held.length+1) c')
 have hrg3:=hk23.range hrg2 (Nat.lt_of_lt_of_le (hk1.lt habl) hk12.size) habd
 have hH3:=KA hH' hk23 (fun x hx=>by
  rcases hHb with e | e
  · rw[e] at hx;simp;rintro rfl;exact h1.dH (by simpa using hx)
  · rw[e] at hx;simp at hx ⊢;subst hx;have:=hk12.size;have:=hb2.lt;have:=h1.blk.lt;have:=hkB.size;simp at this ⊢;omega)
 have hgH:g∉H.ownBlock.toList:=fun hm=>own_ne h1.now h1.held (by decide) rfl (by simpa using hm)
 have hgd:g≠d:=fun e=>h1.dN (by simp[Value.ownBlock,e])
 have hgS:g∉S.ownBlock.toList:=fun hm=>h1.ne (by simpa [Value.ownBlock] using hm)
 have hgU:g∉U.ownBlock.toList:=fun hm=>own_ne h1.now h1.flt (by decide) rfl (by simpa using hm)
 have hSH:∀ x,S.ownBlock=some x→x∉H.ownBlock.toList:=fun x hx hm=>own_ne h1.safe h1.held (by decide) hx (by simpa using hm)
 have hUH:∀ x,U.ownBlock=some x→x∉H.ownBlock.toList:=fun x hx hm=>own_ne h1.flt h1.held (by decide) hx (by simpa using hm)
 have hN3:=KA (KA h1.now hk12 (fun x hx=>by simp[Value.ownBlock] at hx;subst hx;exact hgH)) hk23 (fun x hx=>by simp[Value.ownBlock] at hx;subst hx;simpa using hgd)
 have hS3:=KA (KA h1.safe hk12 hSH) hk23 (fun x hx=>by simp;rintro rfl;exact h1.dS (by simpa using hx))
 have hU3:=KA (KA h1.flt hk12 hUH) hk23 (fun x hx=>by simp;rintro rfl;exact h1.dU (by simpa using hx))
 generalize w2.setCell ⟨d,2,none⟩ (.slice A' (D.held.length+1) c')=w3 at *
 simp at hb3
 refine ZT (fun w'=>w'.cell? ⟨d,1,none⟩=some (.slice (some ⟨g,0,none⟩) D.n nc)∧(Instr.loadAt 248 (.pointer (some ⟨ab,ao,none⟩))).run Tryz.prog w'=.ok (.agg (bys bs).toArray) w') 8 [[0,1,2,3,4,5,6,7]] ⟨(XH hb3).2.1,hl1 _ hrg3⟩ ?_
 simp only[PI]
 iterate 7 (refine ZH ?_;simp only[Act.put,PU])
 refine KM _ (by rfl) (fun W hW=>ZX _ _ rfl _ rfl hW.2) ?_
 try simp only[Act.put,PU]
 refine JB ?_
 refine Kd rfl (Kf _ _ _ rfl _ _ rfl rfl (KT Tryz.underlying170 (s:=64) (by kernel_rfl) g 0 D.n nc k hk _)) ?_
 refine XX rfl _ _ _ rfl _ _ rfl rfl (Yk g _ bs hbl _ (by simpa using ZAB hN3.drew hk)) ?_
 rw[Nat.zero_add]
 have hk34:Keep [g] w3 (w3.drew.setCells g (k*64) (bys bs)):=Keep.setCells _ _ (Keep.refl _ _).drew (.inl (by simp))
 have hN4:=Js hN3.drew hk (ys:=bys bs) (by simp[hbl])
 have hS4:=KA hS3 hk34 (fun x hx=>by simp;rintro rfl;exact hgS (by simpa using hx))
 have hU4:=KA hU3 hk34 (fun x hx=>by simp;rintro rfl;exact hgU (by simpa using hx))
 have hH4:=KA hH3 hk34 (fun x hx=>by simp;rintro rfl;exact own_ne hN3 hH3 (by decide) rfl hx)
 have hb4:=hb3.keep hk34 (by simpa using fun e=>hgd e.symm)
 generalize w3.drew.setCells g (k*64) (bys bs)=w4 at *
 go_wp2_with fail
 go_ret
 have hsub:∀ l:List Nat,(∀ x∈l,x∈F)→∀ {u u':World},Keep l u u'→Keep F u u':=fun l hl _ _ hk=>hk.sub hl
 have K1:=hsub [d] (by simp[hfoot]) hk1
 have K2:=hsub H.ownBlock.toList (by intro x hx;simp[hfoot];simp at hx;simp[hx]) hk12
 have K3:=hsub [d] (by simp[hfoot]) hk23
 have K4:=hsub [g] (by simp[hfoot,Value.ownBlock]) hk34
 refine⟨rfl,_,⟨S,_,_,U,hb4,hS4,by rw[Qx] at hN4;exact hN4,?_,hU4,h1.ne,rfl,h1.base,h1.pos,h1.few,?_,?_⟩,((K1.trans K2 (fun x hx=>.inl hx)).trans K3 (fun x hx=>.inl hx)).trans K4 (fun x hx=>.inl hx),?_⟩
 · have:(D.write k bs).held.length=D.held.length+1:=by simp[PDisk.write]
   rw[this]
   simpa [PDisk.write,JQ] using hH4
 · intro p hp
   simp only[PDisk.write,List.mem_append,List.mem_singleton] at hp
   rcases hp with hp | rfl
   · exact h.ats p hp
   · exact⟨hk,hbl⟩
 · have:=h.acts
   simp[PDisk.write];omega
 · intro x hx
   simp only[List.mem_cons,List.mem_append] at hx
   rw[hfoot]
   rcases hx with rfl | hx | hx | hx | hx
   · simp
   · simp only[List.mem_cons,List.mem_append];simp[hx]
   · simp only[List.mem_cons,List.mem_append];simp[hx]
   · rcases hHb with e | e
     · rw[e] at hx;simp only[List.mem_cons,List.mem_append];simp[hx]
     · rw[e] at hx;simp at hx;right;have:=hk1.size;have:=hkB.size;simp at this;omega
   · simp only[List.mem_cons,List.mem_append];simp[hx]
end
end Go.Proofs.YthgphmfipnjllaaGreat
