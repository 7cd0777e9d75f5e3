/- Lemmas of the proof, with their conditions. -/
import Derived.Test.YthgphmfipnjllaaGreatV29
import Derived.Test.YthgphmfipnjllaaGreatV30
namespace Go.Proofs.YthgphmfipnjllaaGreat
set_option linter.unusedSimpArgs false
set_option linter.unusedVariables false
set_option maxHeartbeats 4000000
set_option maxRecDepth 100000
section
open Go.RowKit Go.Shelf
attribute [local go_sem] Oper.semAt_some
def Qf (D:PDisk) (B:Nat):PPos→List PRec→Prop
 | p,[]=>p.off=24∨p.off<24∧Stale D (YB B p.seg+p.off) (24-p.off) p.lsn
 | p,R :: Rs=>LiesR D B p R∧(KL R.items=true∧Rs=[]∨KL R.items=false∧Qf D B (R.behind p) Rs)
def Begins (D:PDisk) (B sg:Nat) (p0:PPos) (b0:Bool) (Rs:List PRec):Prop:=
 (b0=true∧p0.seg=sg∧p0.off=1∧(1≤p0.mount∧p0.mount≤2147483647)∧(1≤p0.lsn∧p0.lsn≤2147483647)∧p0.prev≤4294967295∧Go.Proofs.YthgphmfipnjllaaGreat.seg 64 D.now (YB B sg)=Yp sg p0.mount p0.lsn p0.prev∧Qf D B p0 Rs) ∨
 (b0=false∧p0=⟨sg,0,0,0,0⟩∧Rs=[]∧Go.Proofs.YthgphmfipnjllaaGreat.seg 64 D.now (YB B sg)=List.replicate 64 0)
theorem Begins.seg {D:PDisk} {B sg:Nat} {p0:PPos} {b0:Bool} {Rs:List PRec} (h:Begins D B sg p0 b0 Rs):p0.seg=sg:=by
 rcases h with⟨_,h,_⟩ | ⟨_,rfl,_⟩
 · exact h
 · rfl
theorem Begins.run {D:PDisk} {B sg:Nat} {p0:PPos} {b0:Bool} {Rs:List PRec} (h:Begins D B sg p0 b0 Rs):b0=true∧Qf D B p0 Rs∨b0=false∧Rs=[]:=by
 rcases h with⟨h1,_,_,_,_,_,_,h2⟩ | ⟨h1,_,h2,_⟩
 · exact .inl ⟨h1,h2⟩
 · exact .inr ⟨h1,h2⟩
theorem QAP (w:World) (s d g B base sg:Nat) (q:PPos) (F:List Nat) (D:PDisk) (hs:XI w s d g sg q) (hg:GeomAt w g B) (h:DiskAt w base d F D) (hoff:D.off=false) (hn:D.n=198+4*pgs B) (hsg7:sg≤7) (hf:D.faults[YB B sg]? = some false)
 (hz:Go.Proofs.YthgphmfipnjllaaGreat.seg 64 D.now (YB B sg)=List.replicate 64 0) (hsF:s∉F) (hsg:s≠g) :
 Calls Tryz.prog 339 #[.pointer (some ⟨s,0,none⟩)] w fun e w'=>e=.returned (.tuple #[.agg #[.int .i64 sg,.int .i64 0,.int .i64 0,.int .i64 0,.int .i64 0],.bool false])∧XI w' s d g sg q∧Keep [s] w w':=by
 have hH:=fun W (hk:Keep [s] w W)=>Ym W g B (hg.keep hk (by simpa using fun e=>hsg e.symm)) (sg:Nat)
 rw[decide_eq_true (by omega)] at hH
 have hC:=fun W (hk:Keep [s] w W)=>ConfigG_is W g B (hg.keep hk (by simpa using fun e=>hsg e.symm))
 have hSg:∀ W,Keep [s] w W→Calls Tryz.prog 40 #[.pointer (some ⟨g,0,none⟩),.int .i64 sg] W fun e w'=>e=.returned (.int .i64 ((YB B sg:Nat)))∧Keep [] W w':=fun W hk=>VQ W g B (hg.keep hk (by simpa using fun e=>hsg e.symm)) sg hsg7
 have hR:=fun W (hk:Keep [s] w W) (hS:XI W s d g sg q)=>VW W s d g sg base q F D hS (h.keep hk (fun x hx hm=>by simp at hm;subst hm;exact hsF hx)) hoff (YB B sg) (by unfold YB;omega) hf
 rw[hz] at hR
 generalize YB B sg=K at *
 have hHd:=fun W A c (ha:Rd W A 64 (bys (List.replicate 64 0)))=>JAF A c W ha
 generalize (List.replicate 64 (0:UInt8))=hb at *
 clear hz hf hn
 have hS:=hs
 have hfd:=fun W=>VF (P:=Tryz.prog) Tryz.underlying27 2 rfl Tryz.isAgg3 #[.int .i64 B,.int .i64 8,.int .i64 24] rfl W
 unfold XI at hs
 obtain⟨c0,c1,c2,c3,c4,c5,c6,c7,c8,c9,c10,c11,c12,c13⟩:=cells14 hs
 have f13:=hs.frozen 13
 have hlt:=hs.lt
 have hs1:=hs.set 13 (.int .i64 0)
 have hk1:Keep [s] w (w.setCell ⟨s,13,none⟩ (.int .i64 0)):=(Keep.refl _ _).setCell (p:=⟨s,13,none⟩) (.inl (by simp)) _
 have hne:s≠w.heap.size:=by omega
 simp only[List.setIfInBounds_toArray,List.set_cons_zero,List.set_cons_succ] at hs1
 go_enter Tryz.func339,Tryz.ntmps339
 go_wp2_with fail
 have hbp:=Blk.new (w.setCell ⟨s,13,none⟩ (.int .i64 0)) 72 #[.int .i64 sg,.int .i64 0,.int .i64 0,.int .i64 0,.int .i64 0]
 rw[World.size_setCell] at hbp
 have hka:=hk1.alloc (.cells #[.int .i64 sg,.int .i64 0,.int .i64 0,.int .i64 0,.int .i64 0] 72)
 have hsa:=hs1.keep0 ((Keep.refl [] _).alloc (.cells #[.int .i64 sg,.int .i64 0,.int .i64 0,.int .i64 0,.int .i64 0] 72))
 clear hs1 hk1 f13 hlt c0 c1 c2 c3 c4 c5 c6 c7 c8 c9 c10 c11 c12 c13 hs
 generalize ((w.setCell ⟨s,13,none⟩ (.int .i64 0)).alloc (.cells #[.int .i64 sg,.int .i64 0,.int .i64 0,.int .i64 0,.int .i64 0] 72))=w1 at *
 have hbd:=hbp.drew
 have hsd:=hsa.drew
 have hkd:=hka.drew
 obtain⟨p0,p1,p2,p3,p4⟩:=cells5 hbd
 have c1:=(cells14 hsd).2.1
 refine ZT (fun W=>W.cell? ⟨s,1,none⟩=some (.pointer (some ⟨g,0,none⟩))∧W.cell? ⟨w.heap.size,0,none⟩=some (.int .i64 sg)∧W.cell? ⟨w.heap.size,1,none⟩=some (.int .i64 0)) 22 [[0,1,2,3,4,5],[6,7,8,9,10,11,12,13,14,15,16,17,18,19],[20,21]] ⟨c1,p0,p1⟩ ?_
 simp only[PI]
 iterate 6 (refine ZH ?_;simp only[Act.put,PU])
 refine XB (by rfl) (fun K hK=>?_)
 go_wp2_with (refine(hH _ hkd).mono ?_;rintro e w2 ⟨rfl,rfl⟩)
 refine hK _ _ (⟨c1,p0,p1⟩) ?_
 clear hK K
 try simp only[Act.put,PU]
 iterate 13 (refine ZH ?_;simp only[Act.put,PU])
 refine XB (by rfl) (fun K hK=>?_)
 go_wp2_with (refine(hC _ hkd).mono ?_;rintro e w2 ⟨rfl,hk2⟩)
 have hb2:=hbd.keep0 hk2
 have hs2:=hsd.keep0 hk2
 have hkw2:=hkd.trans0 hk2
 obtain⟨p0',p1',p2',p3',p4'⟩:=cells5 hb2
 have c1':=(cells14 hs2).2.1
 refine hK _ _ (⟨c1',p0',p1'⟩) ?_
 clear hK K
 try simp only[Act.put,PU]
 iterate 1 (refine ZH ?_;simp only[Act.put,PU])
 refine JB ?_
 clear p0 p1 p2 p3 p4 c1 hbd hsd hkd hbp hka hsa
 have hltp:=hb2.lt
 go_wp2_with fail
 have hbd:=hb2.drew
 have hsd:=hs2.drew
 have hkd:=hkw2.drew
 obtain⟨p0,p1,p2,p3,p4⟩:=cells5 hbd
 have c1:=(cells14 hsd).2.1
 refine ZT (fun W=>W.cell? ⟨s,1,none⟩=some (.pointer (some ⟨g,0,none⟩))∧W.cell? ⟨w.heap.size,0,none⟩=some (.int .i64 sg)) 13 [[0,1,2,3,4,5,6],[7],[8,9,10,11,12]] ⟨c1,p0⟩ ?_
 simp only[PI]
 iterate 7 (refine ZH ?_;simp only[Act.put,PU])
 refine XB (by rfl) (fun K hK=>?_)
 go_wp2_with (refine(hSg _ hkd).mono ?_;rintro e w3 ⟨rfl,hk3⟩)
 have hb3:=hbd.keep0 hk3
 have hs3:=hsd.keep0 hk3
 have hkw3:=hkd.trans0 hk3
 clear p0 p1 p2 p3 p4 c1 hsd hkd hk3 p0' p1' p2' p3' p4' c1' hb2 hs2 hkw2 hk2
 refine hK _ _ (⟨(cells14 hs3).2.1,(cells5 hb3).1⟩) ?_
 clear hK K
 try simp only[Act.put,PU]
 refine XB (by rfl) (fun K hK=>?_)
 go_wp2_with (refine(hR _ hkw3 hs3).mono ?_;rintro e w4 ⟨u,rfl,hu,hs4,hk4⟩;obtain⟨UA,uc,rfl,_⟩:=QB hu)
 have hb4:=hb3.keep hk4 (by simpa using fun e=>hne e.symm)
 have hkw4:=hkw3.trans hk4 (fun x hx=>.inl hx)
 clear hs3 hkw3 hk4 hb3 hR hSg hbd
 refine hK _ _ (⟨(cells14 hs4).2.1,(cells5 hb4).1⟩) ?_
 clear hK K
 try simp only[Act.put,PU]
 iterate 4 (refine ZH ?_;simp only[Act.put,PU])
 refine JB ?_
 replace hHd:=hHd w4 UA uc (Rd.of_own hu)
 go_wp2_with (
  refine hHd.mono ?_
  clear hHd
  rintro e w5 ⟨rfl,hk5⟩
  have hb5:=hb4.keep0 (hk5.alloc (.cells #[.int .i64 0,.int .i64 0,.int .i64 0,.int .i64 0] 260))
  have hs5:=hs4.keep0 (hk5.alloc (.cells #[.int .i64 0,.int .i64 0,.int .i64 0,.int .i64 0] 260))
  obtain⟨p0,p1,p2,p3,p4⟩:=cells5 hb5
  have c7:=(cells14 hs5).2.2.2.2.2.2.2.1
  have g0:=hb5.frozen 0
  have g1:=hb5.frozen 1
  have g2:=hb5.frozen 2
  have g3:=hb5.frozen 3
  have g4:=hb5.frozen 4
  have hltp:=hb5.lt)
 have hkw5:=hkw4.trans0 (hk5.alloc (.cells #[.int .i64 0,.int .i64 0,.int .i64 0,.int .i64 0] 260))
 obtain⟨hz2,hkz⟩:=KAJ hb5 (.int .i64 sg) (.int .i64 0) (.int .i64 0) (.int .i64 0) (.int .i64 0)
 obtain⟨y0,y1,y2,y3,y4⟩:=cells5 hz2
 exact bodyPost_ret (v:=.tuple #[.agg #[.int .i64 sg,.int .i64 0,.int .i64 0,.int .i64 0,.int .i64 0],.bool false]) (by simp[results,Tryz.results339,go_sem,y0,y1,y2,y3,y4]) rfl ⟨rfl,hs5.keep hkz (by simpa using hne),hkw5.trans hkz (fun x hx=>.inr (by simp at hx;omega))⟩
theorem QAS (w:World) (s d g B base sg:Nat) (q p0:PPos) (b0:Bool) (Rs:List PRec) (F:List Nat) (D:PDisk) (hs:XI w s d g sg q) (hg:GeomAt w g B) (h:DiskAt w base d F D) (hoff:D.off=false) (hn:D.n=198+4*pgs B) (hsg7:sg≤7) (hf:D.faults[YB B sg]? = some false)
 (hbg:Begins D B sg p0 b0 Rs) (hsF:s∉F) (hsg:s≠g) :
 Calls Tryz.prog 339 #[.pointer (some ⟨s,0,none⟩)] w fun e w'=>e=.returned (.tuple #[.agg #[.int .i64 (p0.seg:Nat),.int .i64 (p0.off:Nat),.int .i64 (p0.lsn:Nat),.int .i64 (p0.prev:Nat),.int .i64 (p0.mount:Nat)],.bool b0])∧XI w' s d g sg q∧Keep [s] w w':=by
 rcases hbg with⟨rfl,h1,h2,h3,h4,h5,h6,-⟩ | ⟨rfl,rfl,rfl,h6⟩
 · obtain⟨sg',off,lsn,prev,mount⟩:=p0
   simp only at h1 h2 h3 h4 h5 h6
   subst h1 h2
   exact JAM w s d g B base _ mount lsn prev q F D hs hg h hoff hn hsg7 hf h3 h4 h5 h6 hsF hsg
 · exact QAP w s d g B base sg q F D hs hg h hoff hn hsg7 hf h6 hsF hsg
end
section
open Go.RowKit Go.Shelf
attribute [local go_sem] Oper.semAt_some
def placed:PPos→List PRec→List (PPos×PRec)
 | _,[]=>[]
 | p,R :: Rs=>(p,R) :: placed (R.behind p) Rs
abbrev PTold:=PPos×PRec×Value×Value
def VAe (x:PTold):Array Value:=#[.agg #[.int .i64 x.1.seg,.int .i64 x.1.off,.int .i64 x.1.lsn,.int .i64 x.1.prev,.int .i64 x.1.mount],.agg #[.int .i64 x.2.1.mount,.int .i64 x.2.1.lsn,.int .i64 x.2.1.prev,x.2.2.1,x.2.2.2]]
def KAs (L:List (PPos×PRec)) (pre:List PTold) (x:PTold) (W:World):Prop:=L[pre.length]? = some (x.1,x.2.1)∧RecHold W 0 x.2.2.1 x.2.2.2 x.2.1
def XAt (L:List (PPos×PRec)) (s d g sg:Nat) (xs:List PTold) (W:World):Prop:=xs.map (fun x=>(x.1,x.2.1))=L∧∃ q,XI W s d g sg q
theorem ZAf {W:World} {s:Nat} {t:TypeId} {x0 x1 x2 x3 x4 x5 x6 x7 x8 x9 x10 x11 x12 x13:Value} (h:Blk W s t #[x0,x1,x2,x3,x4,x5,x6,x7,x8,x9,x10,x11,x12,x13]) (v0 v1 v2 v3 v4:Value) :
 Blk (((((W.setCell ⟨s,8,none⟩ v0).setCell ⟨s,9,none⟩ v1).setCell ⟨s,10,none⟩ v2).setCell ⟨s,11,none⟩ v3).setCell ⟨s,12,none⟩ v4) s t #[x0,x1,x2,x3,x4,x5,x6,x7,v0,v1,v2,v3,v4,x13] ∧
 Keep [s] W (((((W.setCell ⟨s,8,none⟩ v0).setCell ⟨s,9,none⟩ v1).setCell ⟨s,10,none⟩ v2).setCell ⟨s,11,none⟩ v3).setCell ⟨s,12,none⟩ v4):=by
 have hz:=((((h.set 8 v0).set 9 v1).set 10 v2).set 11 v3).set 12 v4
 simp only[List.setIfInBounds_toArray,List.set_cons_zero,List.set_cons_succ] at hz
 exact⟨hz,(((((Keep.refl [s] W).setCell (p:=⟨s,8,none⟩) (.inl (by simp)) _).setCell (p:=⟨s,9,none⟩) (.inl (by simp)) _).setCell (p:=⟨s,10,none⟩) (.inl (by simp)) _).setCell (p:=⟨s,11,none⟩) (.inl (by simp)) _).setCell (p:=⟨s,12,none⟩) (.inl (by simp)) _⟩
structure KPla (w:World) (N pc sb s d g B base sg:Nat) (F:List Nat) (D:PDisk) (L:List (PPos×PRec)) (J:List PTold→World→Prop) (b:Value) (p:PPos) (W:World):Prop where
 run:∃ pre rest,J pre W∧pre.map (fun x=>(x.1,x.2.1))++placed p rest=L∧(b=.bool true∧Qf D B p rest∨b=.bool false∧rest=[])
 sc:∃ q,XI W s d g sg q
 pos:Blk W pc 72 #[.int .i64 p.seg,.int .i64 p.off,.int .i64 p.lsn,.int .i64 p.prev,.int .i64 p.mount]
 sb:Boxed W sb 233 (.pointer (some ⟨s,0,none⟩))
 disk:DiskAt W base d F D
 geom:GeomAt W g B
 size:w.heap.size≤W.heap.size
 seg:p.seg=sg
def Qy (pc:Nat) (b:Value) (W:World):Nat:=
 match b with
 | .bool true=>match W.cell? ⟨pc,1,none⟩ with
   | some v=>25-(intOf v).toNat
   | none=>0
 | _=>0
theorem QAF (n sb s d g B base sg:Nat) (q p0:PPos) (b0:Bool) (F:List Nat) (D:PDisk) (Rs:List PRec) (TC:List TypeId)
 (t1:174∉TC) (t2:248∉TC) (t3:250∉TC) (t4:4∉TC) (t5:138∉TC) (t6:333∉TC) (t7:233∉TC) (t8:72∉TC)
 (w:World) (hb:Boxed w sb 233 (.pointer (some ⟨s,0,none⟩))) (hs:XI w s d g sg q) (hg:GeomAt w g B) (h:DiskAt w base d F D) (hoff:D.off=false) (hn:D.n=198+4*pgs B) (hsg7:sg≤7) (hf:∀ k,k<D.n→D.faults[k]? = some false)
 (hbg:Begins D B sg p0 b0 Rs) (hsF:s∉F) (hsg:s≠g) (hsb:sb≠s) :
 KBE n Tryz.prog 338 #[.pointer (some ⟨sb,0,none⟩)] VAe (KAs (placed p0 Rs)) [s] [333,72] TC (XAt (placed p0 Rs) s d g sg) w:=by
 intro l J W hW hsz hJ hJt hY h0
 have hFs:YB B sg<D.n:=by unfold YB;omega
 have hFlt:=h.lt
 have hgl:=hg.lt
 have hbl:=hb.lt
 replace hs:XI W s d g sg q:=Blk.keep0 hs hW
 replace hg:=hg.keep0 hW
 replace h:=h.keep0 hW
 replace hb:Boxed W sb 233 (.pointer (some ⟨s,0,none⟩)):=JA hb hW (by simp)
 have hJs:∀ a A B,J a A→Keep [s] A B→(∃ q,XI A s d g sg q)→J a B:=fun a A B hj hk hsc=>hJ a A B [s] hj hk (fun x hx=>by
  simp at hx;subst hx
  obtain⟨q,hq⟩:=hsc
  exact⟨.inl (by simp),_,_,hq,by simp⟩)
 have hJ0:∀ a A B,J a A→Keep [] A B→J a B:=fun a A B hj hk=>hJ a A B [] hj hk (by simp)
 have hB:=callsIn_wide (n:=n-1).2 (QAS W s d g B base sg q p0 b0 Rs F D hs hg h hoff hn hsg7 (hf _ hFs) hbg hsF hsg)
 have hsg0:=hbg.seg
 have hrun:=hbg.run
 obtain⟨sg0,off0,lsn,prev,mount⟩:=p0
 simp only at hsg0 hB
 subst hsg0
 obtain⟨p0,hp0⟩:∃ p0:PPos,p0=⟨sg0,off0,lsn,prev,mount⟩:=⟨_,rfl⟩
 rw[← hp0] at hrun hY ⊢
 have HY:=ZB hY
 have HJ:=ZB hJ
 have HJS:=ZB hJs
 have HJ0:=ZB hJ0
 have HP0:=ZB hp0
 have HCH:=ZB hrun
 have HF:=ZB hf
 clear hY hJ hJs hJ0 hp0 hrun hbg hf
 refine callsIn_of_wp Tryz.func338 rfl trivial ?_ rfl
 simp only[Tryz.ntmps338,List.size_toArray,List.length_cons,List.length_nil,Nat.reduceAdd,Nat.reduceSub,Array.replicate_succ,Array.replicate_zero,List.push_toArray,List.append_toArray,List.nil_append,List.cons_append]
 have hc:=hb.cell
 gi_wp2_with (
  refine⟨trivial,fun h=>by simp[Fence.wide] at h,?_⟩
  refine hB.mono ?_
  clear hB hc
  rintro e w1 ⟨rfl,hs1,hk1⟩
  have hc1:=(JA hb hk1 (by simpa using hsb)).cell
  have hc2:=(JA hb (hk1.alloc (.cells #[.int .i64 sg0,.int .i64 off0,.int .i64 lsn,.int .i64 prev,.int .i64 mount] 72)) (by simpa using hsb)).cell
  have hs2:XI (w1.alloc (.cells #[.int .i64 sg0,.int .i64 off0,.int .i64 lsn,.int .i64 prev,.int .i64 mount] 72)) s d g sg0 q:=Blk.keep0 hs1 ((Keep.refl _ _).alloc _)
  have hs3:=id hs2
  unfold XI at hs2
  obtain⟨c0,c1,c2,c3,c4,c5,c6,c7,c8,c9,c10,c11,c12,c13⟩:=cells14 hs2
  have f8:=hs2.frozen 8
  have f9:=hs2.frozen 9
  have f10:=hs2.frozen 10
  have f11:=hs2.frozen 11
  have f12:=hs2.frozen 12
  have hlt:=hs2.lt)
 obtain⟨hs4,hk4⟩:=ZAf hs2 (.int .i64 (sg0:Nat)) (.int .i64 (off0:Nat)) (.int .i64 (lsn:Nat)) (.int .i64 (prev:Nat)) (.int .i64 (mount:Nat))
 have hs4':XI _ s d g sg0 ⟨sg0,off0,lsn,prev,mount⟩:=hs4
 have hka:=hk1.alloc (.cells #[.int .i64 sg0,.int .i64 off0,.int .i64 lsn,.int .i64 prev,.int .i64 mount] 72)
 have hkz:=hka.trans hk4 (fun x hx=>.inl hx)
 have hp4:=(Blk.new w1 72 #[.int .i64 sg0,.int .i64 off0,.int .i64 lsn,.int .i64 prev,.int .i64 mount]).keep hk4 (by have:=hs1.lt;simp;omega)
 have hJ4:=QA HJS _ _ _ h0 hkz ⟨q,hs⟩
 have hb4:=JA hb hkz (by simpa using hsb)
 have hd4:=h.keep hkz (fun x hx hm=>by simp at hm;subst hm;exact hsF hx)
 have hg4:=hg.keep hkz (by simpa using fun e=>hsg e.symm)
 have hpc:w.heap.size≤w1.heap.size:=Nat.le_trans hW.size hk1.size
 have hsl:s<w1.heap.size:=hs1.lt
 clear hs3 hs2 c0 c1 c2 c3 c4 c5 c6 c7 c8 c9 c10 c11 c12 c13 f8 f9 f10 f11 f12 hlt hc1 hc2 hka hk4 hs4 hb h hg hs h0 hkz hk1 hs1
 generalize (((((((w1.alloc (.cells #[.int .i64 sg0,.int .i64 off0,.int .i64 lsn,.int .i64 prev,.int .i64 mount] 72)).setCell ⟨s,8,none⟩ (.int .i64 sg0)).setCell ⟨s,9,none⟩ (.int .i64 off0)).setCell ⟨s,10,none⟩ (.int .i64 lsn)).setCell ⟨s,11,none⟩ (.int .i64 prev)).setCell ⟨s,12,none⟩ (.int .i64 mount)))=w2 at *
 generalize w1.heap.size=pc at *
 gi_loopw [4] (fun b wr=>∃ p:PPos,KPla w w.heap.size pc sb s d g B base sg0 F D (placed p0 Rs) J b p wr)
  (fun b wr=>Qy pc b wr)
 case atStart=>
  have:=QA HP0
  exact⟨⟨sg0,off0,lsn,prev,mount⟩,⟨[],Rs,hJ4,by rw[this];rfl,by have h9:=QA HCH;rw[this] at h9;rcases h9 with⟨h1,h2⟩ | ⟨h1,h2⟩;exact .inl ⟨by rw[h1],h2⟩;exact .inr ⟨by rw[h1],h2⟩⟩,⟨_,hs4'⟩,hp4,hb4,hd4,hg4,by have:=hp4.lt;omega,rfl⟩
 case round=>
  clear hJ4 hs4' hp4 hb4 hd4 hg4
  obtain⟨⟨psg,poff,plsn,pprev,pmount⟩,hK⟩:=hrel
  obtain rfl:sg0=psg:=hK.seg.symm
  obtain⟨pre,rest,hJp,hL,hbv⟩:=hK.run
  obtain⟨q1,hsc⟩:=hK.sc
  have hcb:=hK.sb.cell
  obtain⟨x0,x1,x2,x3,x4⟩:=cells5 hK.pos
  simp only at x0 x1 x2 x3 x4
  rcases hbv with⟨rfl,hc⟩ | ⟨rfl,rfl⟩
  · cases rest with
    | nil=>
      have hO:=callsIn_wide (n:=n-1).2 (VAS wr s d g B base sg0 q1 ⟨sg0,poff,plsn,pprev,pmount⟩ F D hsc hK.geom hK.disk hoff hn (QA HF) hsg7 hc hsF hsg)
      have HL:=ZB hL
      have HK:=ZB hK
      clear hc hL hK
      gi_wp2_with (refine⟨trivial,fun h=>by simp[Fence.wide] at h,?_⟩;refine hO.mono ?_;clear hO;rintro e w3 ⟨rfl,hs3,hk3⟩)
      refine bodyPost_ret (results_none rfl _ _ _) rfl ?_
      refine⟨⟨_,rfl⟩,pre,⟨by have:=QA HL;simpa [placed] using this,_,Blk.keep0 hs3 (((Keep.refl _ _).alloc _).alloc _)⟩,?_⟩
      exact QA HJ0 _ _ _ (QA HJS _ _ _ hJp hk3 ⟨_,hsc⟩) (((Keep.refl _ _).alloc _).alloc _)
    | cons R Rs'=>
      obtain⟨hLi,hc⟩:=hc
      have hO:=callsIn_wide (n:=n-1).2 (YAO wr s d g B base sg0 q1 ⟨sg0,poff,plsn,pprev,pmount⟩ R F D hsc hK.geom hK.disk hoff hn (QA HF) hsg7 hLi hsF hsg)
      have HL:=ZB hL
      have HK:=ZB hK
      have HC:=ZB hc
      have HLI:=ZB hLi
      have hro:poff+(1+R.blocks.length)≤24:=hLi.room
      obtain⟨no,hno⟩:∃ no,no=poff+(1+R.blocks.length):=⟨_,rfl⟩
      obtain⟨nl,hnl⟩:∃ nl,nl=R.lsn+1:=⟨_,rfl⟩
      obtain⟨ns,hns⟩:∃ ns,ns=R.sum:=⟨_,rfl⟩
      simp only[← hno,← hnl,← hns] at hO
      have HNO:=ZB hno
      have HNL:=ZB hnl
      have HNS:=ZB hns
      clear hc hL hK hLi hno hnl hns hro
      gi_wp2_with (
       refine⟨trivial,fun h=>by simp[Fence.wide] at h,?_⟩
       refine hO.mono ?_
       clear hO
       rintro e w3 ⟨I,Bv,rfl,hRH,hs3,hk3⟩
       obtain⟨gi,ic,rfl,_⟩:=QD hRH.its (QA HLI).may.some
       obtain⟨BA,bl,bc,rfl⟩:∃ BA bl bc,Bv=.slice BA bl bc:=by obtain⟨ls,-,h2,-⟩:=hRH.bls;obtain⟨A,c,h,_⟩:=QB h2;exact⟨A,_,c,h⟩
       have hka:Keep [] w3 ((w3.alloc (.cells #[.int .i64 R.mount,.int .i64 R.lsn,.int .i64 R.prev,.slice (some ⟨gi,0,none⟩) R.items.length ic,.slice BA bl bc] 239)).alloc (.cells #[.int .i64 sg0,.int .i64 no,.int .i64 nl,.int .i64 ns,.int .i64 R.mount] 72)):=((Keep.refl _ _).alloc _).alloc _
       have hs4:=Blk.keep0 hs3 hka
       have hs5:=id hs4
       unfold XI at hs5
       obtain⟨c0,c1,c2,c3,c4,c5,c6,c7,c8,c9,c10,c11,c12,c13⟩:=cells14 hs5
       have f8:=hs5.frozen 8
       have f9:=hs5.frozen 9
       have f10:=hs5.frozen 10
       have f11:=hs5.frozen 11
       have f12:=hs5.frozen 12
       have hlt:=hs5.lt
       have hsb3:=JA (JA (QA HK).sb hk3 (by simpa using hsb)) hka (by simp)
       have hcb3:=hsb3.cell)
      obtain⟨hs6,hk6⟩:=ZAf hs5 (.int .i64 (sg0:Nat)) (.int .i64 (no:Nat)) (.int .i64 (nl:Nat)) (.int .i64 (ns:Nat)) (.int .i64 (R.mount:Nat))
      have hs6':XI _ s d g sg0 ⟨sg0,no,nl,ns,R.mount⟩:=hs6
      have hRH4:=(hRH.keep0 hka).keepB hs5 (by decide) (by decide) (by decide) hk6
      have hr4:=(Blk.new w3 239 #[.int .i64 R.mount,.int .i64 R.lsn,.int .i64 R.prev,.slice (some ⟨gi,0,none⟩) R.items.length ic,.slice BA bl bc]).keep0 ((Keep.refl [] _).alloc (.cells #[.int .i64 sg0,.int .i64 no,.int .i64 nl,.int .i64 ns,.int .i64 R.mount] 72))
      have hs3l:=hs3.lt
      replace hr4:=hr4.keep hk6 (by simp;omega)
      have hpcl:=(QA HK).pos.lt
      have hk4:Keep [s] wr _:=(hk3.trans0 hka).trans hk6 (fun x hx=>.inl hx)
      have hsr:=hsc.lt
      have hpcs:pc≠s:=fun e=>by subst e;have h1:=hsc.symm.trans (QA HK).pos;simp at h1
      have hp4:=(QA HK).pos.keep hk4 (by simpa using hpcs)
      have hb4:=JA (QA HK).sb hk4 (by simpa using hsb)
      have hd4:=(QA HK).disk.keep hk4 (fun x hx hm=>by simp at hm;subst hm;exact hsF hx)
      have hg4:=(QA HK).geom.keep hk4 (by simpa using fun e=>hsg e.symm)
      have hJ4:=QA HJS _ _ _ hJp hk4 ⟨_,hsc⟩
      have hw4s:w.heap.size≤wr.heap.size:=(QA HK).size
      have hwk4:=hk4.size
      clear c0 c1 c2 c3 c4 c5 c6 c7 c8 c9 c10 c11 c12 c13 f8 f9 f10 f11 f12 hlt hcb3 hsb3 hs5 hs4 hka hk6 hs6 hk4 hRH
      generalize ((((((((w3.alloc (.cells #[.int .i64 R.mount,.int .i64 R.lsn,.int .i64 R.prev,.slice (some ⟨gi,0,none⟩) R.items.length ic,.slice BA bl bc] 239)).alloc (.cells #[.int .i64 sg0,.int .i64 no,.int .i64 nl,.int .i64 ns,.int .i64 R.mount] 72)).setCell ⟨s,8,none⟩ (.int .i64 sg0)).setCell ⟨s,9,none⟩ (.int .i64 no)).setCell ⟨s,10,none⟩ (.int .i64 nl)).setCell ⟨s,11,none⟩ (.int .i64 ns)).setCell ⟨s,12,none⟩ (.int .i64 R.mount)))=w4 at *
      generalize w3.heap.size=rb at *
      have hNx:=callsIn_wide (n:=n-1).2 (ZAM R.mount R.lsn R.prev gi R.items.length ic (.slice BA bl bc) R.items w4 (Rd.of_ownN hRH4.its) rfl (QA HLI).may.few rfl)
      obtain⟨lb,hlb⟩:∃ lb,lb=KL R.items:=⟨_,rfl⟩
      rw[← hlb] at hNx
      have HLB:=ZB hlb
      clear hlb
      gi_wp2_with (
       refine⟨trivial,fun h=>by simp[Fence.wide] at h,?_⟩
       refine hNx.mono ?_
       clear hNx
       rintro e w5 ⟨⟨v,rfl⟩,hk5⟩
       clear x0 x1 x2 x3 x4 hcb
       have hp5:=hp4.keep0 hk5
       have hr5:=hr4.keep0 hk5
       obtain⟨x0,x1,x2,x3,x4⟩:=cells5 hp5
       obtain⟨r0,r1,r2,r3,r4⟩:=ZC hr5
       obtain⟨fn,tmps,assign,body,hy,hR⟩:=QA HY pre (⟨sg0,poff,plsn,pprev,pmount⟩,R,.slice (some ⟨gi,0,none⟩) R.items.length ic,.slice BA bl bc) w5 (QA HJ0 _ _ _ hJ4 hk5) ⟨by
        have:=QA HL
        rw[← this,List.getElem?_append_right (by simp),List.length_map,Nat.sub_self];rfl,(hRH4.keep0 hk5).base (Nat.zero_le _)⟩
       dsimp only[VAe] at hy)
      refine⟨fun h=>by simp[Fence.wide] at h,hR.mono ?_⟩
      rintro e w6 ⟨rfl,hJ6,hT6⟩
      have hs5:Blk w5 s _ _:=Blk.keep0 hs6' hk5
      have hs6:=hT6.blk hs5 t6
      have hp6:=hT6.blk hp5 t8
      have hb6:=hT6.box (JA hb4 hk5 (by simp)) t7
      have hd6:=hT6.disk (hd4.keep0 hk5) t1 t2 t3 t4
      have hg6:=hT6.geom (hg4.keep0 hk5) t5
      have hsz6:=hT6.size
      have hsz5:=hk5.size
      clear x0 x1 x2 x3 x4 r0 r1 r2 r3 r4 hy hR hr5 hr4 hp4 hb4 hd4 hg4 hJ4 hs6' hs5 hp5 hk5
      obtain⟨x0,x1,x2,x3,x4⟩:=cells5 hp6
      obtain⟨c0,c1,c2,c3,c4,c5,c6,c7,c8,c9,c10,c11,c12,c13⟩:=cells14 hs6
      simp only at c8 c9 c10 c11 c12
      have f0:=hp6.frozen 0
      have f1:=hp6.frozen 1
      have f2:=hp6.frozen 2
      have f3:=hp6.frozen 3
      have f4:=hp6.frozen 4
      have hltp:=hp6.lt
      have hcb6:=hb6.cell
      gi_wp2
      obtain⟨hz7,kz7⟩:=KAJ hp6 (.int .i64 (sg0:Nat)) (.int .i64 (no:Nat)) (.int .i64 (nl:Nat)) (.int .i64 (ns:Nat)) (.int .i64 (R.mount:Nat))
      go_roundw
      case rel=>
       have hC:=QA HC
       refine⟨R.behind ⟨sg0,poff,plsn,pprev,pmount⟩,⟨_,Rs',QA HJ _ _ _ [pc] hJ6 kz7 (fun x hx=>by simp at hx;subst hx;exact⟨.inr hpc,_,_,hp6,by simp⟩),by rw[← QA HL,List.map_append];simp[placed],?_⟩,⟨⟨sg0,no,nl,ns,R.mount⟩,Blk.keep hs6 kz7 (by simpa using fun e=>hpcs e.symm)⟩,?_,JA hb6 kz7 ?_,hd6.keep kz7 ?_,hg6.keep kz7 ?_,by have:=kz7.size;omega,rfl⟩
       · rw[QA HLB]
         rcases hC with⟨h1,h2⟩ | ⟨h1,h2⟩
         · rw[h1];exact .inr ⟨rfl,h2⟩
         · rw[h1];exact .inl ⟨rfl,h2⟩
       · have e1:=QA HNO
         have e2:=QA HNL
         have e3:=QA HNS
         subst e1 e2 e3
         exact hz7
       · simp only[List.mem_singleton];omega
       · intro x hx hm
         have:=hFlt x hx
         simp only[List.mem_singleton] at hm
         omega
       · simp only[List.mem_singleton];omega
      case measure=>
       have y1:=(cells5 hz7).2.1
       have x1':=(cells5 (QA HK).pos).2.1
       have e1:=QA HNO
       have e2:poff+(1+R.blocks.length)≤24:=(QA HLI).room
       have m1:Qy pc (.bool true) wr=25-poff:=by
        unfold Qy
        rw[x1']
        simp[intOf]
       rw[m1]
       cases lb
       · unfold Qy
         rw[y1]
         simp only[Bool.not_false,intOf,Int.toNat_natCast]
         omega
       · simp only[Qy,Bool.not_true]
         omega
  · have HL:=ZB hL
    have HK:=ZB hK
    clear hL hK
    gi_wp2
    go_end0
    exact⟨⟨_,rfl⟩,pre,⟨by have:=QA HL;simpa [placed] using this,_,hsc⟩,hJp⟩
end
section
open Go.RowKit Go.Shelf
attribute [local go_sem] Oper.semAt_some
def QAW (x:PTold):Array Value:=#[.int .i64 x.1.off,.agg #[.int .i64 x.2.1.mount,.int .i64 x.2.1.lsn,.int .i64 x.2.1.prev,x.2.2.1,x.2.2.2]]
theorem YAq (n:Nat) (v:Value) (w:World) (hv:v.oneCell'=true) :
 CallsIn Fence.wide n Tryz.prog 174 #[v] w fun e w'=>e=.returned (.func (.func 283) #[] #[.pointer (some ⟨w.heap.size,0,none⟩)])∧w'=w.alloc (.cells #[v] 233):=by
 refine(callsIn_wide (n:=n)).2 ?_
 go_enter Tryz.func174,Tryz.ntmps174
 go_wp2
 go_ret
 exact⟨rfl,rfl⟩
structure KRcs (b2 l N:Nat) (J:List PTold→World→Prop) (pre:List PTold) (W:World):Prop where
 out:J pre W
 box:Boxed W b2 334 (.func (.yield l) #[] #[])
 size:N≤W.heap.size
theorem YAB (n sb s d g B base sg:Nat) (q p0:PPos) (b0:Bool) (F:List Nat) (D:PDisk) (Rs:List PRec) (TC:List TypeId)
 (t1:174∉TC) (t2:248∉TC) (t3:250∉TC) (t4:4∉TC) (t5:138∉TC) (t6:333∉TC) (t7:233∉TC) (t8:72∉TC) (t9:334∉TC)
 (w:World) (hb:Boxed w sb 233 (.pointer (some ⟨s,0,none⟩))) (hs:XI w s d g sg q) (hg:GeomAt w g B) (h:DiskAt w base d F D) (hoff:D.off=false) (hn:D.n=198+4*pgs B) (hsg7:sg≤7) (hf:∀ k,k<D.n→D.faults[k]? = some false)
 (hbg:Begins D B sg p0 b0 Rs) (hsF:s∉F) (hsg:s≠g) :
 KBE n Tryz.prog 283 #[.pointer (some ⟨sb,0,none⟩)] QAW (KAs (placed p0 Rs)) [s] [333,72] TC (XAt (placed p0 Rs) s d g sg) w:=by
 intro l J W hW hsz hJ hJt hY h0
 have hsw:=hs.lt
 replace hs:XI W s d g sg q:=Blk.keep0 hs hW
 replace hg:=hg.keep0 hW
 replace h:=h.keep0 hW
 replace hb:Boxed W sb 233 (.pointer (some ⟨s,0,none⟩)):=JA hb hW (by simp)
 have hc:=(JA hb ((Keep.refl [] W).alloc (.cells #[.func (.yield l) #[] #[]] 334)) (by simp)).cell
 have HY:=ZB hY
 have HJ:=ZB hJ
 have HJT:=ZB hJt
 clear hY hJ hJt
 refine callsIn_of_wp_marks Tryz.func283 rfl trivial ?_ rfl
 simp only[Tryz.ntmps283,List.size_toArray,List.length_cons,List.length_nil,Nat.reduceAdd,Nat.reduceSub,Array.replicate_succ,Array.replicate_zero,List.push_toArray,List.append_toArray,List.nil_append,List.cons_append]
 gi_wp2
 refine⟨trivial,fun h=>by simp[Fence.wide] at h,?_⟩
 refine(JAV _ _ _ rfl).mono ?_
 rintro e w' ⟨rfl,rfl⟩
 gi_wp2
 obtain⟨w1,hw1⟩:∃ w1,w1=W.alloc (.cells #[.func (.yield l) #[] #[]] 334):=⟨_,rfl⟩
 obtain⟨w2,hw2⟩:∃ w2,w2=w1.alloc (.cells #[.pointer (some ⟨s,0,none⟩)] 233):=⟨_,rfl⟩
 rw[← hw1,← hw2]
 have s1:w1.heap.size=W.heap.size+1:=by rw[hw1,World.size_alloc]
 have s2:w2.heap.size=W.heap.size+2:=by rw[hw2,World.size_alloc,s1]
 have k1:Keep [] W w1:=by rw[hw1];exact(Keep.refl _ _).alloc _
 have k2:Keep [] w1 w2:=by rw[hw2];exact(Keep.refl _ _).alloc _
 have kw:Keep [] W w2:=k1.trans0 k2
 have b2:Boxed w2 W.heap.size 334 (.func (.yield l) #[] #[]):=JA (by rw[hw1];exact Boxed.new W _ _) k2 (by simp)
 have bc:Boxed w2 (W.heap.size+1) 233 (.pointer (some ⟨s,0,none⟩)):=by rw[hw2,← s1];exact Boxed.new w1 _ _
 have hWs:=hW.size
 have hsl:=hs.lt
 have hi0:KRcs W.heap.size l w2.heap.size J [] w2:=⟨QA HJ _ _ _ [] h0 kw (by simp),b2,Nat.le_refl _⟩
 have hseq:=QAF (n-1) (W.heap.size+1) s d g B base sg q p0 b0 F D Rs TC t1 t2 t3 t4 t5 t6 t7 t8 w2 bc (Blk.keep0 hs kw) (hg.keep0 kw) (h.keep0 kw) hoff hn hsg7 hf hbg hsF hsg (by omega)
 refine ZU (n:=n) (gf:=338) (lb:=#[.pointer (some ⟨W.heap.size+1,0,none⟩)]) rfl (enters_of Tryz.func338 (by kernel_rfl) rfl)
  (fun xs V k o o' hS hl hg' ho=>⟨hS.1,hS.2.choose,JG o' hS.2.choose_spec hg' ho⟩) hseq (fun _=>rfl) (fun x hx=>by simp at hx;omega)
  (KRcs W.heap.size l w2.heap.size J) ?hI ?hIb (fun pre x A B hF hk=>⟨hF.1,hF.2.keep0 hk⟩) ?hFb hi0
  (fun x a' V=>∃ b3 b4,a'={ tmps:=#[.func (.yield l) #[] #[],.pointer (some ⟨sb,0,none⟩),.pointer (some ⟨W.heap.size,0,none⟩),.pointer (some ⟨b3,0,none⟩),.pointer (some ⟨b4,0,none⟩),.pointer (some ⟨s,0,none⟩),.func (.func 338) #[] #[.pointer (some ⟨W.heap.size+1,0,none⟩)],.agg #[.int .i64 x.1.seg,.int .i64 x.1.off,.int .i64 x.1.lsn,.int .i64 x.1.prev,.int .i64 x.1.mount],.agg #[.int .i64 x.2.1.mount,.int .i64 x.2.1.lsn,.int .i64 x.2.1.prev,x.2.2.1,x.2.2.2],undef,undef,undef,undef,undef,undef],defers:=[] }∧Blk V b3 72 #[.int .i64 x.1.seg,.int .i64 x.1.off,.int .i64 x.1.lsn,.int .i64 x.1.prev,.int .i64 x.1.mount]∧Blk V b4 239 #[.int .i64 x.2.1.mount,.int .i64 x.2.1.lsn,.int .i64 x.2.1.prev,x.2.2.1,x.2.2.2])
  ?hAb ?assign ?body ?done
 case hI=>
  intro xs A V L hA hk hL
  have hL':∀ x∈L,YBE [s] [333,72] w.heap.size A x:=fun x hx=>by
   obtain⟨h1,h2⟩:=hL x hx
   exact⟨h1.imp id (fun h=>by omega),h2⟩
  exact⟨QA HJ _ _ _ L hA.out hk hL',JA hA.box hk (fun hm=>by
   obtain⟨-,cs,t,e1,e2⟩:=hL _ hm
   have e3:=hA.box.symm.trans e1
   simp at e3
   obtain⟨-,rfl⟩:=e3
   simp at e2),Nat.le_trans hA.size hk.size⟩
 case hIb=>
  intro xs V k o o' hV hl hg' ho
  exact⟨QA HJT _ _ _ _ _ hV.out (by omega) hg' ho,XC o' hV.box hg' ho,by rw[World.putObj_size];exact hV.size⟩
 case hFb=>
  intro pre x V k o o' hV hl hg' ho
  obtain⟨h1,hi,ls,h2,h3,h4⟩:=hV
  exact⟨h1,YG o' hi hg' ho,ls,h2,YG o' h3 hg' ho,fun q hq=>YG o' (h4 q hq) hg' ho⟩
 case hAb=>
  intro x a' V k o o' hV hl hg' ho
  obtain⟨b3,b4,h1,h2,h3⟩:=hV
  exact⟨b3,b4,h1,JG o' h2 hg' ho,JG o' h3 hg' ho⟩
 case assign=>
  rintro l' pre ⟨p,R,I,Bv⟩ V K' hI' hF hK
  have hF2:RecHold V 0 I Bv R:=hF.2
  obtain⟨IA,ic,rfl,_⟩:=QB hF2.its
  obtain⟨BA,bl,bc',rfl⟩:∃ BA bl bc,Bv=.slice BA bl bc:=by obtain⟨ls,-,h2,-⟩:=hF2.bls;obtain⟨A,c,h,_⟩:=QB h2;exact⟨A,_,c,h⟩
  have hK2:=fun a' V' h1 h2=>hK a' V' h1 h2
  have HK:=ZB hK2
  clear hK hK2 hseq hi0 b2 bc hF hF2
  dsimp only[VAe]
  gi_wp2
  have ka:Keep [] V (V.alloc (.cells #[.int .i64 p.seg,.int .i64 p.off,.int .i64 p.lsn,.int .i64 p.prev,.int .i64 p.mount] 72)):=(Keep.refl _ _).alloc _
  refine QA HK _ _ (ka.alloc _) ⟨_,_,rfl,(Blk.new V _ _).keep0 ((Keep.refl [] _).alloc _),Blk.new1 V _ _ _⟩
 case body=>
  rintro l' pre ⟨p,R,I,Bv⟩ a' V hI' hF ⟨b3,b4,rfl,hb3,hb4⟩
  have hF2:RecHold V 0 I Bv R:=hF.2
  obtain⟨IA,ic,rfl,_⟩:=QB hF2.its
  obtain⟨BA,bl,bc',rfl⟩:∃ BA bl bc,Bv=.slice BA bl bc:=by obtain⟨ls,-,h2,-⟩:=hF2.bls;obtain⟨A,c,h,_⟩:=QB h2;exact⟨A,_,c,h⟩
  dsimp only at hb3 hb4 ⊢
  obtain⟨x0,x1,x2,x3,x4⟩:=cells5 hb3
  obtain⟨r0,r1,r2,r3,r4⟩:=ZC hb4
  have hc2:=hI'.box.cell
  obtain⟨fn,tmps,assign,body,hy,hR⟩:=QA HY pre (p,R,.slice IA R.items.length ic,.slice BA bl bc') V hI'.out hF
  dsimp only[QAW] at hy
  have HI:=ZB hI'
  clear hseq hi0 b2 bc hF hF2 hI' hb3 hb4
  gi_wp2
  refine⟨fun h=>by simp[Fence.wide] at h,(KN hR).mono ?_⟩
  rintro e V1 ⟨rfl,hJ1,hT1⟩
  clear hy hR x0 x1 x2 x3 x4 r0 r1 r2 r3 r4 hc2
  gi_wp2
  exact⟨hT1,hJ1,hT1.box (QA HI).box t9,Nat.le_trans (QA HI).size hT1.size⟩
 case done=>
  intro D' xs V hD' hS hI' hdef
  clear hseq hi0 b2 bc
  gi_wp2
  refine⟨by simp,.inl ⟨_,_,rfl,run_takeDeferred hdef,?_⟩⟩
  refine⟨.tuple #[],by simp[results,Tryz.results283,go_sem],⟨_,rfl⟩,xs,⟨hS.1,hS.2.choose,JG _ hS.2.choose_spec hdef rfl⟩,QA HJT _ _ _ _ _ hI'.out (by omega) hdef rfl⟩
end
end Go.Proofs.YthgphmfipnjllaaGreat
