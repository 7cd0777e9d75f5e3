/- Lemmas of the proof, with their conditions. -/
import Derived.Test.YtkonbpfbjiepfaaGreatT29
import Derived.Test.YtkonbpfbjiepfaaGreatT27
namespace Go.Proofs.YtkonbpfbjiepfaaGreat
set_option linter.unusedSimpArgs false
set_option linter.unusedVariables false
set_option maxHeartbeats 4000000
set_option maxRecDepth 100000
section
open Go.RowKit Go.Shelf
attribute [local go_sem] Oper.semAt_some
def YBD (bl ol:List Int) (k:Nat):List Int:=(List.zipWith (fun b o=>if o = -1 then b else o) bl ol).take k++bl.drop k
def Kn (ol:List Int) (k:Nat):List Int:=List.replicate k (-1)++ol.drop k
def YBB (bl ol:List Int) (k:Nat):List Int:=((bl.zip ol).take k).flatMap (fun p=>if p.2 = -1 then [] else if 0<VF p.1 p.2 then [VF p.1 p.2] else [])
section
variable {bl ol:List Int} {k:Nat}
theorem Yl (hk:k≤ol.length):(Kn ol k).length=ol.length:=by simp[Kn];omega
theorem YAu (hk:k<ol.length):(Kn ol k)[k]? = some ol[k]:=by
 unfold Kn;rw[List.getElem?_append_right (by simp),List.length_replicate,Nat.sub_self,List.getElem?_drop];simp[hk]
theorem JAZ (hk:k<ol.length):Kn ol (k+1)=(Kn ol k).set k (-1):=by
 unfold Kn;rw[List.replicate_succ',List.set_append_right _ _ (by simp),List.length_replicate,Nat.sub_self,List.drop_eq_getElem_cons hk,List.set_cons_zero];simp
theorem QAR (h2:∀ x∈ol,-1≤x∧x<4096):∀ x∈Kn ol k,-1≤x∧x<4096:=by
 intro x hx;rcases List.mem_append.1 hx with hx | hx
 · have:=List.eq_of_mem_replicate hx;omega
 · exact h2 x (List.mem_of_mem_drop hx)
end
structure KCom (w:World) (base m p1 p2:Nat) (F F1 F2:List Nat) (I:PImage) (pre:List PRnd) (W:World):Prop where
 img:∃ bd od,ImageIs W base m p1 p2 F F1 F2 ⟨YBD I.bl I.ol pre.length,bd,Kn I.ol pre.length,od⟩
 out:∃ ov,Boxed W (w.heap.size+1) 22 ov∧W.ownsRow w.heap.size 3 1 ov (YBB I.bl I.ol pre.length).length (VI (YBB I.bl I.ol pre.length))
 b1:Boxed W w.heap.size 46 (.pointer (some ⟨m,0,none⟩))
 keep:Keep F w W
 few:pre.length≤I.ol.length
theorem ImageIs.putObj {W:World} {base m p1 p2 k:Nat} {F F1 F2:List Nat} {I:PImage} {o:Obj} (h:ImageIs W base m p1 p2 F F1 F2 I) (o':Obj) (hl:W.heap[k]? = some o) (ho:o.isCells=false):ImageIs (W.putObj k o') base m p1 p2 F F1 F2 I:=
 ⟨XH o' h.blk hl ho,h.b.putObj o' hl ho,h.o.putObj o' hl ho,h.apart,h.m1,h.m2,h.foot,h.base,h.ok⟩
theorem PagedAt.isCells {W:World} {base p:Nat} {F:List Nat} {l:List Int} {ds:List Bool} (h:PagedAt W base p F l ds):∀ g∈F,∀ o,W.heap[g]? = some o→o.isCells=true:=by
 obtain⟨L,U,h⟩:=h;exact h.isCells
theorem KCom.kept {w A B:World} {base m p1 p2:Nat} {F F1 F2:List Nat} {I:PImage} {pre:List PRnd} (h:KCom w base m p1 p2 F F1 F2 I pre A) (hk:Keep [] A B):KCom w base m p1 p2 F F1 F2 I pre B:=by
 obtain⟨bd,od,h1⟩:=h.img;obtain⟨ov,h2,h3⟩:=h.out;exact⟨⟨bd,od,h1.keep0 hk⟩,⟨ov,KA h2 hk (by simp),QB h3 hk⟩,KA h.b1 hk (by simp),h.keep.trans0 hk,h.few⟩
theorem KCom.turned {w W:World} {base m p1 p2 k:Nat} {F F1 F2:List Nat} {I:PImage} {pre:List PRnd} {o o':Obj} (h:KCom w base m p1 p2 F F1 F2 I pre W) (hl:w.heap.size≤k) (hg:W.heap[k]? = some o) (ho:o.isCells=false):KCom w base m p1 p2 F F1 F2 I pre (W.putObj k o'):=by
 obtain⟨bd,od,h1⟩:=h.img;obtain⟨ov,h2,h3⟩:=h.out;exact⟨⟨bd,od,h1.putObj o' hg ho⟩,⟨ov,ZC o' h2 hg ho,ownsRow_putObj h3 o' hg ho⟩,ZC o' h.b1 hg ho,h.keep.putObj hl o',h.few⟩
end
section
open Go.RowKit Go.Shelf
attribute [local go_sem] Oper.semAt_some
theorem cells14 {w:World} {g:Nat} {t:TypeId} {x0 x1 x2 x3 x4 x5 x6 x7 x8 x9 x10 x11 x12 x13:Value} (h:Blk w g t #[x0,x1,x2,x3,x4,x5,x6,x7,x8,x9,x10,x11,x12,x13]) :
 w.cell? ⟨g,0,none⟩=some x0∧w.cell? ⟨g,1,none⟩=some x1∧w.cell? ⟨g,2,none⟩=some x2∧w.cell? ⟨g,3,none⟩=some x3∧w.cell? ⟨g,4,none⟩=some x4∧w.cell? ⟨g,5,none⟩=some x5∧w.cell? ⟨g,6,none⟩=some x6∧w.cell? ⟨g,7,none⟩=some x7∧w.cell? ⟨g,8,none⟩=some x8∧w.cell? ⟨g,9,none⟩=some x9∧w.cell? ⟨g,10,none⟩=some x10∧w.cell? ⟨g,11,none⟩=some x11∧w.cell? ⟨g,12,none⟩=some x12∧w.cell? ⟨g,13,none⟩=some x13:=
 ⟨by simpa using h.cell 0,by simpa using h.cell 1,by simpa using h.cell 2,by simpa using h.cell 3,by simpa using h.cell 4,by simpa using h.cell 5,by simpa using h.cell 6,by simpa using h.cell 7,by simpa using h.cell 8,by simpa using h.cell 9,by simpa using h.cell 10,by simpa using h.cell 11,by simpa using h.cell 12,by simpa using h.cell 13⟩
theorem cells5 {w:World} {g:Nat} {t:TypeId} {x0 x1 x2 x3 x4:Value} (h:Blk w g t #[x0,x1,x2,x3,x4]) :
 w.cell? ⟨g,0,none⟩=some x0∧w.cell? ⟨g,1,none⟩=some x1∧w.cell? ⟨g,2,none⟩=some x2∧w.cell? ⟨g,3,none⟩=some x3∧w.cell? ⟨g,4,none⟩=some x4:=
 ⟨by simpa using h.cell 0,by simpa using h.cell 1,by simpa using h.cell 2,by simpa using h.cell 3,by simpa using h.cell 4⟩
def VH (W:World) (s d g:Nat):Prop:=Blk W s 381 #[.pointer (some ⟨d,0,none⟩),.pointer (some ⟨g,0,none⟩),.int .i64 0,.int .i64 0,.int .i64 1,.int .i64 0,.int .i64 1,.bool false,.int .i64 0,.int .i64 0,.int .i64 1,.int .i64 0,.int .i64 1,.int .i64 0]
theorem Blk.new1 (w:World) (o:Obj) (t:TypeId) (cs:Array Value):Blk ((w.alloc o).alloc (.cells cs t)) (w.heap.size+1) t cs:=by
 have h:=Blk.new (w.alloc o) t cs
 rwa [World.size_alloc] at h
theorem XAQ (w:World) (d g:Nat) :
 Calls Tryz.prog 287 #[.pointer (some ⟨d,0,none⟩),.pointer (some ⟨g,0,none⟩),.agg #[.int .i64 0,.int .i64 0,.int .i64 1,.int .i64 0,.int .i64 1]] w fun e w'=>∃ s,e=.returned (.pointer (some ⟨s,0,none⟩))∧VH w' s d g∧w.heap.size≤s∧Keep [] w w':=by
 go_enter Tryz.func287,Tryz.ntmps287
 go_wp2
 go_ret;exact⟨_,rfl,Blk.new1 _ _ _ _,by simp,((Keep.refl _ _).alloc _).alloc _⟩
theorem QAI (w:World) (s d g base:Nat) (F:List Nat) (D:PDisk) (hs:VH w s d g) (h:DiskAt w base d F D) (hoff:D.off=false) (k:Nat) (hk:k<D.n) (hf:D.faults[k]? = some false) :
 Calls Tryz.prog 385 #[.pointer (some ⟨s,0,none⟩),.int .i64 (k:Nat)] w fun e w'=>∃ u,e=.returned (.tuple #[u,.bool true])∧w'.ownsRow w.heap.size 5 1 u 64 (bys (seg 64 D.now k))∧VH w' s d g∧Keep [s] w w':=by
 have hR:=QY w base d F D h hoff k hk hf;unfold VH at *;obtain⟨c0,c1,c2,c3,c4,c5,c6,c7,c8,c9,c10,c11,c12,c13⟩:=cells14 hs
 go_enter Tryz.func385,Tryz.ntmps385
 go_wp2_with (
  refine hR.mono ?_;clear hR c0 c1 c2 c3 c4 c5 c6 c7 c8 c9 c10 c11 c12 c13;rintro e w2 ⟨u,rfl,hu,hk2⟩;obtain⟨UA,uc,rfl,_⟩:=JB hu;have hs2:=hs.keep0 hk2;obtain⟨c0,c1,c2,c3,c4,c5,c6,c7,c8,c9,c10,c11,c12,c13⟩:=cells14 hs2;have f13:=hs2.frozen 13;have hlt:=hs2.lt)
 have hs3:=hs2.set 13 (.int .i64 0);have hk3:Keep [s] w2 (w2.setCell ⟨s,13,none⟩ (.int .i64 0)):=(Keep.refl _ _).setCell (p:=⟨s,13,none⟩) (.inl (by simp)) _;have hu3:=XB hu hk3 (fun x hx hm=>by simp at hm;subst hm;exact own_blk_ne hu hs2 (by decide) hx);simp only[List.setIfInBounds_toArray,List.set_cons_zero,List.set_cons_succ] at hs3;have hd3:=hs3.drew;have q:=(cells14 hd3).2.2.2.2.2.2.2.2.2.2.2.2.2;refine ZT (fun W=>W.cell? ⟨s,13,none⟩=some (.int .i64 0)) 7 [[0,1,2,3,4,5,6]] q ?_;simp only[PI]
 iterate 7 (refine ZH ?_;simp only[Act.put,PU])
 refine QC ?_
 go_wp2
 go_ret2;exact⟨_,rfl,QB hu3 (Keep.refl _ _).drew,hd3,(hk2.zero.trans hk3 (fun x hx=>.inl hx)).drew⟩
theorem Zn (w:World) (s d g B base:Nat) (F:List Nat) (D:PDisk) (hs:VH w s d g) (hg:GeomAt w g B) (h:DiskAt w base d F D) (hoff:D.off=false) (hn:D.n=198+4*pgs B) (hf:D.faults[6+4*pgs B]? = some false) (hz:seg 64 D.now (6+4*pgs B)=List.replicate 64 0) (hsF:s∉F) (hsg:s≠g) :
 Calls Tryz.prog 343 #[.pointer (some ⟨s,0,none⟩)] w fun e w'=>e=.returned (.tuple #[.agg #[.int .i64 0,.int .i64 0,.int .i64 1,.int .i64 0,.int .i64 1],.bool false])∧VH w' s d g∧Keep [s] w w':=by
 have hH:=fun W (hk:Keep [s] w W)=>XAH W g B (hg.keep hk (by simpa using fun e=>hsg e.symm)) 0;have hC:=fun W (hk:Keep [s] w W)=>ConfigG_is W g B (hg.keep hk (by simpa using fun e=>hsg e.symm))
 have hSg:∀ W,Keep [s] w W→Calls Tryz.prog 45 #[.pointer (some ⟨g,0,none⟩),.int .i64 0] W fun e w'=>e=.returned (.int .i64 ((6+4*pgs B:Nat)))∧Keep [] W w':=fun W hk=>by
  have:=Xm W g B (hg.keep hk (by simpa using fun e=>hsg e.symm)) 0 (by omega);simpa using this
 obtain⟨K,hK⟩:∃ K:Nat,K=6+4*pgs B:=⟨_,rfl⟩;have hR:=fun W (hk:Keep [s] w W) (hS:VH W s d g)=>QAI W s d g base F D hS (h.keep hk (fun x hx hm=>by simp at hm;subst hm;exact hsF hx)) hoff (6+4*pgs B) (by omega) hf;rw[hz] at hR;rw[← hK] at hR hSg;clear hK hz hf hn;have hS:=hs;have hfd:=fun W=>VE (P:=Tryz.prog) Tryz.underlying27 2 rfl Tryz.isAgg3 #[.int .i64 B,.int .i64 8,.int .i64 24] rfl W;unfold VH at hs;obtain⟨c0,c1,c2,c3,c4,c5,c6,c7,c8,c9,c10,c11,c12,c13⟩:=cells14 hs;have f13:=hs.frozen 13;have hlt:=hs.lt;have hs1:=hs.set 13 (.int .i64 0);have hk1:Keep [s] w (w.setCell ⟨s,13,none⟩ (.int .i64 0)):=(Keep.refl _ _).setCell (p:=⟨s,13,none⟩) (.inl (by simp)) _;have hne:s≠w.heap.size:=by omega
 simp only[List.setIfInBounds_toArray,List.set_cons_zero,List.set_cons_succ] at hs1
 go_enter Tryz.func343,Tryz.ntmps343
 go_wp2_with fail
 have hbp:=Blk.new (w.setCell ⟨s,13,none⟩ (.int .i64 0)) 175 #[.int .i64 0,.int .i64 0,.int .i64 1,.int .i64 0,.int .i64 1];rw[World.size_setCell] at hbp;have hka:=hk1.alloc (.cells #[.int .i64 0,.int .i64 0,.int .i64 1,.int .i64 0,.int .i64 1] 175);have hsa:=hs1.keep0 ((Keep.refl [] _).alloc (.cells #[.int .i64 0,.int .i64 0,.int .i64 1,.int .i64 0,.int .i64 1] 175));clear hs1 hk1 f13 hlt c0 c1 c2 c3 c4 c5 c6 c7 c8 c9 c10 c11 c12 c13 hs;generalize ((w.setCell ⟨s,13,none⟩ (.int .i64 0)).alloc (.cells #[.int .i64 0,.int .i64 0,.int .i64 1,.int .i64 0,.int .i64 1] 175))=w1 at *;have hbd:=hbp.drew;have hsd:=hsa.drew;have hkd:=hka.drew;obtain⟨p0,p1,p2,p3,p4⟩:=cells5 hbd;have c1:=(cells14 hsd).2.1;refine ZT (fun W=>W.cell? ⟨s,1,none⟩=some (.pointer (some ⟨g,0,none⟩))∧W.cell? ⟨w.heap.size,0,none⟩=some (.int .i64 0)∧W.cell? ⟨w.heap.size,1,none⟩=some (.int .i64 0)) 22 [[0,1,2,3,4,5],[6,7,8,9,10,11,12,13,14,15,16,17,18,19],[20,21]] ⟨c1,p0,p1⟩ ?_;simp only[PI]
 iterate 6 (refine ZH ?_;simp only[Act.put,PU])
 refine ZB (by rfl) (fun K hK=>?_)
 go_wp2_with (refine(hH _ hkd).mono ?_;rintro e w2 ⟨rfl,rfl⟩)
 refine hK _ _ (⟨c1,p0,p1⟩) ?_;clear hK K
 try simp only[Act.put,PU]
 iterate 13 (refine ZH ?_;simp only[Act.put,PU])
 refine ZB (by rfl) (fun K hK=>?_)
 go_wp2_with (refine(hC _ hkd).mono ?_;rintro e w2 ⟨rfl,hk2⟩)
 have hb2:=hbd.keep0 hk2;have hs2:=hsd.keep0 hk2;have hkw2:=hkd.trans0 hk2;obtain⟨p0',p1',p2',p3',p4'⟩:=cells5 hb2;have c1':=(cells14 hs2).2.1;refine hK _ _ (⟨c1',p0',p1'⟩) ?_;clear hK K
 try simp only[Act.put,PU]
 iterate 1 (refine ZH ?_;simp only[Act.put,PU])
 refine QC ?_;clear p0 p1 p2 p3 p4 c1 hbd hsd hkd hbp hka hsa;have hltp:=hb2.lt
 go_wp2_with fail
 have hbd:=hb2.drew;have hsd:=hs2.drew;have hkd:=hkw2.drew;obtain⟨p0,p1,p2,p3,p4⟩:=cells5 hbd;have c1:=(cells14 hsd).2.1;refine ZT (fun W=>W.cell? ⟨s,1,none⟩=some (.pointer (some ⟨g,0,none⟩))∧W.cell? ⟨w.heap.size,0,none⟩=some (.int .i64 0)) 13 [[0,1,2,3,4,5,6],[7],[8,9,10,11,12]] ⟨c1,p0⟩ ?_;simp only[PI]
 iterate 7 (refine ZH ?_;simp only[Act.put,PU])
 refine ZB (by rfl) (fun K hK=>?_)
 go_wp2_with (refine(hSg _ hkd).mono ?_;rintro e w3 ⟨rfl,hk3⟩)
 have hb3:=hbd.keep0 hk3;have hs3:=hsd.keep0 hk3;have hkw3:=hkd.trans0 hk3;clear p0 p1 p2 p3 p4 c1 hsd hkd hk3 p0' p1' p2' p3' p4' c1' hb2 hs2 hkw2 hk2;refine hK _ _ (⟨(cells14 hs3).2.1,(cells5 hb3).1⟩) ?_;clear hK K
 try simp only[Act.put,PU]
 refine ZB (by rfl) (fun K hK=>?_)
 go_wp2_with (refine(hR _ hkw3 hs3).mono ?_;rintro e w4 ⟨u,rfl,hu,hs4,hk4⟩;obtain⟨UA,uc,rfl,_⟩:=JB hu)
 have hb4:=hb3.keep hk4 (by simpa using fun e=>hne e.symm);have hkw4:=hkw3.trans hk4 (fun x hx=>.inl hx);clear hs3 hkw3 hk4 hb3 hR hSg hbd;refine hK _ _ (⟨(cells14 hs4).2.1,(cells5 hb4).1⟩) ?_;clear hK K
 try simp only[Act.put,PU]
 iterate 4 (refine ZH ?_;simp only[Act.put,PU])
 refine QC ?_;have hHd:=JAF UA uc w4 (Rd.of_own hu)
 go_wp2_with (
  refine hHd.mono ?_;clear hHd;rintro e w5 ⟨rfl,hk5⟩;have hb5:=hb4.keep0 hk5;obtain⟨p0,p1,p2,p3,p4⟩:=cells5 hb5;have g0:=hb5.frozen 0;have g1:=hb5.frozen 1;have g2:=hb5.frozen 2;have g3:=hb5.frozen 3;have g4:=hb5.frozen 4;have hltp:=hb5.lt)
 have hz:=((((hb5.set 0 (.int .i64 0)).set 1 (.int .i64 0)).set 2 (.int .i64 1)).set 3 (.int .i64 0)).set 4 (.int .i64 1);have hkz:=(((((Keep.refl [w.heap.size] w5).setCell (p:=⟨w.heap.size,0,none⟩) (.inl (by simp)) (.int .i64 0)).setCell (p:=⟨w.heap.size,1,none⟩) (.inl (by simp)) (.int .i64 0)).setCell (p:=⟨w.heap.size,2,none⟩) (.inl (by simp)) (.int .i64 1)).setCell (p:=⟨w.heap.size,3,none⟩) (.inl (by simp)) (.int .i64 0)).setCell (p:=⟨w.heap.size,4,none⟩) (.inl (by simp)) (.int .i64 1);have hka:=(Keep.refl [] (((((w5.setCell ⟨w.heap.size,0,none⟩ (.int .i64 0)).setCell ⟨w.heap.size,1,none⟩ (.int .i64 0)).setCell ⟨w.heap.size,2,none⟩ (.int .i64 1)).setCell ⟨w.heap.size,3,none⟩ (.int .i64 0)).setCell ⟨w.heap.size,4,none⟩ (.int .i64 1))).alloc (.cells #[.int .i64 0,.int .i64 0,.int .i64 0,.int .i64 0] 376);simp only[List.setIfInBounds_toArray,List.set_cons_zero,List.set_cons_succ] at hz;have hsz:=((hs4.keep0 hk5).keep hkz (by simpa using hne)).keep0 hka;obtain⟨y0,y1,y2,y3,y4⟩:=cells5 (hz.keep0 hka);refine bodyPost_ret (v:=.tuple #[.agg #[.int .i64 0,.int .i64 0,.int .i64 1,.int .i64 0,.int .i64 1],.bool false]) (by simp[results,Tryz.results343,go_sem,y0,y1,y2,y3,y4]) rfl ⟨rfl,hsz,((hkw4.trans0 hk5).trans hkz (fun x hx=>.inr (by simp at hx;omega))).trans0 hka⟩
end
section
open Go.RowKit Go.Shelf
attribute [local go_sem] Oper.semAt_some
theorem QAj {W:World} {s d g:Nat} (h:VH W s d g) :
 VH (((((W.setCell ⟨s,8,none⟩ (.int .i64 0)).setCell ⟨s,9,none⟩ (.int .i64 0)).setCell ⟨s,10,none⟩ (.int .i64 1)).setCell ⟨s,11,none⟩ (.int .i64 0)).setCell ⟨s,12,none⟩ (.int .i64 1)) s d g ∧
 Keep [s] W (((((W.setCell ⟨s,8,none⟩ (.int .i64 0)).setCell ⟨s,9,none⟩ (.int .i64 0)).setCell ⟨s,10,none⟩ (.int .i64 1)).setCell ⟨s,11,none⟩ (.int .i64 0)).setCell ⟨s,12,none⟩ (.int .i64 1)):=by
 unfold VH at *;have hz:=((((h.set 8 (.int .i64 0)).set 9 (.int .i64 0)).set 10 (.int .i64 1)).set 11 (.int .i64 0)).set 12 (.int .i64 1);simp only[List.setIfInBounds_toArray,List.set_cons_zero,List.set_cons_succ] at hz;exact⟨hz,(((((Keep.refl [s] W).setCell (p:=⟨s,8,none⟩) (.inl (by simp)) _).setCell (p:=⟨s,9,none⟩) (.inl (by simp)) _).setCell (p:=⟨s,10,none⟩) (.inl (by simp)) _).setCell (p:=⟨s,11,none⟩) (.inl (by simp)) _).setCell (p:=⟨s,12,none⟩) (.inl (by simp)) _⟩
theorem Ky (w:World) (v:Value) (sb s d g B base:Nat) (F:List Nat) (D:PDisk) (hb:Boxed w sb 300 (.pointer (some ⟨s,0,none⟩))) (hs:VH w s d g) (hg:GeomAt w g B) (h:DiskAt w base d F D) (hoff:D.off=false) (hn:D.n=198+4*pgs B) (hf:D.faults[6+4*pgs B]? = some false) (hz:seg 64 D.now (6+4*pgs B)=List.replicate 64 0) (hsF:s∉F) (hsg:s≠g) (hsb:sb≠s) :
 Calls Tryz.prog 342 #[v,.pointer (some ⟨sb,0,none⟩)] w fun e w'=>(∃ u,e=.returned u)∧VH w' s d g∧Keep [s] w w':=by
 have hBg:=Zn w s d g B base F D hs hg h hoff hn hf hz hsF hsg;have hc:=hb.cell
 go_enter Tryz.func342,Tryz.ntmps342
 go_wp2_with (
  refine hBg.mono ?_;clear hBg hc;rintro e w1 ⟨rfl,hs1,hk1⟩;have hc1:=(KA hb hk1 (by simpa using hsb)).cell;have hc2:=(KA hb (hk1.alloc (.cells #[.int .i64 0,.int .i64 0,.int .i64 1,.int .i64 0,.int .i64 1] 175)) (by simpa using hsb)).cell;have hs2:VH (w1.alloc (.cells #[.int .i64 0,.int .i64 0,.int .i64 1,.int .i64 0,.int .i64 1] 175)) s d g:=hs1.keep0 ((Keep.refl _ _).alloc _);have hs3:=id hs2;unfold VH at hs2;obtain⟨c0,c1,c2,c3,c4,c5,c6,c7,c8,c9,c10,c11,c12,c13⟩:=cells14 hs2;have f8:=hs2.frozen 8;have f9:=hs2.frozen 9;have f10:=hs2.frozen 10;have f11:=hs2.frozen 11;have f12:=hs2.frozen 12;have hlt:=hs2.lt)
 obtain⟨hs4,hk4⟩:=QAj hs3;have hka:=hk1.alloc (.cells #[.int .i64 0,.int .i64 0,.int .i64 1,.int .i64 0,.int .i64 1] 175);have hkz:=hka.trans hk4 (fun x hx=>.inl hx);clear hs3 hs2 c0 c1 c2 c3 c4 c5 c6 c7 c8 c9 c10 c11 c12 c13 f8 f9 f10 f11 f12 hlt hc1 hc2 hs1 hka hk4;generalize (((((((w1.alloc (.cells #[.int .i64 0,.int .i64 0,.int .i64 1,.int .i64 0,.int .i64 1] 175)).setCell ⟨s,8,none⟩ (.int .i64 0)).setCell ⟨s,9,none⟩ (.int .i64 0)).setCell ⟨s,10,none⟩ (.int .i64 1)).setCell ⟨s,11,none⟩ (.int .i64 0)).setCell ⟨s,12,none⟩ (.int .i64 1)))=w2 at *
 go_loopw [4] (fun b wr=>b=.bool false∧VH wr s d g∧Keep [s] w wr) (fun _ _=>0)
 case atStart=>exact⟨rfl,hs4,hkz⟩
 case round=>
  obtain⟨rfl,hs5,hk5⟩:=hrel
  go_wp2
  go_end0
  exact⟨⟨_,rfl⟩,hs5,hk5⟩
theorem YAg (n:Nat) (v:Value) (w:World) (hv:v.oneCell'=true) :
 CallsIn Fence.wide n Tryz.prog 289 #[v] w fun e w'=>e=.returned (.func (.func 342) #[] #[.pointer (some ⟨w.heap.size,0,none⟩)])∧w'=w.alloc (.cells #[v] 300):=by
 refine(callsIn_wide (n:=n)).2 ?_
 go_enter Tryz.func289,Tryz.ntmps289
 go_wp2
 go_ret;exact⟨rfl,rfl⟩
theorem JAR (w:World) (s d g:Nat) (hs:VH w s d g):Calls Tryz.prog 212 #[.pointer (some ⟨s,0,none⟩)] w fun e w'=>e=.returned (.int .i64 0)∧w=w':=by
 unfold VH at hs;have c13:=(cells14 hs).2.2.2.2.2.2.2.2.2.2.2.2.2
 go_enter Tryz.func212,Tryz.ntmps212
 go_wp2
 go_ret;exact⟨rfl,rfl⟩
theorem ZAO (w:World) (s d g:Nat) (hs:VH w s d g):Calls Tryz.prog 351 #[.pointer (some ⟨s,0,none⟩)] w fun e w'=>e=.returned (.agg #[.int .i64 0,.int .i64 0,.int .i64 1,.int .i64 0,.int .i64 1])∧Keep [] w w':=by
 unfold VH at hs;obtain⟨c0,c1,c2,c3,c4,c5,c6,c7,c8,c9,c10,c11,c12,c13⟩:=cells14 hs;have hlt:=hs.lt
 go_enter Tryz.func351,Tryz.ntmps351
 go_wp2
 exact bodyPost_ret (v:=.agg #[.int .i64 0,.int .i64 0,.int .i64 1,.int .i64 0,.int .i64 1]) (by simp[results,Tryz.results351,go_sem]) rfl ⟨rfl,(Keep.refl _ _).alloc _⟩
end
section
open Go.RowKit Go.Shelf
attribute [local go_sem] Oper.semAt_some
def Xv (ol:List Int) (k:Nat):List Int:=(ol.take k).flatMap (fun o=>if 0<VF o (-1) then [VF o (-1)] else [])
theorem YAY {ol:List Int} {k:Nat} (hk:k<ol.length):Xv ol (k+1)=Xv ol k++if 0<VF ol[k] (-1) then [VF ol[k] (-1)] else []:=by
 unfold Xv;rw[List.take_succ_eq_append_getElem hk,List.flatMap_append];simp
theorem VAF (ol:List Int) (k:Nat):(Xv ol k).length≤k:=by
 unfold Xv
 have:∀ l:List Int,(l.flatMap (fun o=>if 0<VF o (-1) then [VF o (-1)] else [])).length≤l.length:=by
  intro l
  induction l with
  | nil=>simp
  | cons p l ih=>
    rw[List.flatMap_cons,List.length_append,List.length_cons];have:(if 0<VF p (-1) then [VF p (-1)] else []).length≤1:=by split <;> simp
    omega
 refine Nat.le_trans (this _) ?_;simp;omega
structure KFor (w:World) (base m p1 p2:Nat) (F F1 F2:List Nat) (I:PImage) (pre:List PRnd) (W:World):Prop where
 img:∃ od,ImageIs W base m p1 p2 F F1 F2 ⟨I.bl,I.bd,Kn I.ol pre.length,od⟩
 out:∃ ov,Boxed W (w.heap.size+1) 22 ov∧W.ownsRow w.heap.size 3 1 ov (Xv I.ol pre.length).length (VI (Xv I.ol pre.length))
 b1:Boxed W w.heap.size 46 (.pointer (some ⟨m,0,none⟩))
 keep:Keep F w W
 few:pre.length≤I.ol.length
theorem KFor.kept {w A B:World} {base m p1 p2:Nat} {F F1 F2:List Nat} {I:PImage} {pre:List PRnd} (h:KFor w base m p1 p2 F F1 F2 I pre A) (hk:Keep [] A B):KFor w base m p1 p2 F F1 F2 I pre B:=by
 obtain⟨od,h1⟩:=h.img;obtain⟨ov,h2,h3⟩:=h.out;exact⟨⟨od,h1.keep0 hk⟩,⟨ov,KA h2 hk (by simp),QB h3 hk⟩,KA h.b1 hk (by simp),h.keep.trans0 hk,h.few⟩
theorem KFor.turned {w W:World} {base m p1 p2 k:Nat} {F F1 F2:List Nat} {I:PImage} {pre:List PRnd} {o o':Obj} (h:KFor w base m p1 p2 F F1 F2 I pre W) (hl:w.heap.size≤k) (hg:W.heap[k]? = some o) (ho:o.isCells=false):KFor w base m p1 p2 F F1 F2 I pre (W.putObj k o'):=by
 obtain⟨od,h1⟩:=h.img;obtain⟨ov,h2,h3⟩:=h.out;exact⟨⟨od,h1.putObj o' hg ho⟩,⟨ov,ZC o' h2 hg ho,ownsRow_putObj h3 o' hg ho⟩,ZC o' h.b1 hg ho,h.keep.putObj hl o',h.few⟩
theorem XAe (w:World) (base m:Nat) (F:List Nat) (I:PImage) (h:ImageAt w base m F I) :
 Calls Tryz.prog 156 #[.pointer (some ⟨m,0,none⟩)] w fun e w'=>∃ G od,e=.returned G∧w'.ownsRow w.heap.size 3 1 G (Xv I.ol I.ol.length).length (VI (Xv I.ol I.ol.length)) ∧
  ImageAt w' base m F ⟨I.bl,I.bd,Kn I.ol I.ol.length,od⟩∧Keep F w w':=by
 obtain⟨p1,p2,F1,F2,h⟩:=h;refine(callsIn_wide (n:=3)).1 ?_;refine callsIn_of_wp_marks Tryz.func156 rfl trivial ?_ rfl;simp only[Tryz.ntmps156,List.size_toArray,List.length_cons,List.length_nil,Nat.reduceAdd,Nat.reduceSub,Array.replicate_succ,Array.replicate_zero,List.push_toArray,List.append_toArray,List.nil_append,List.cons_append];have hT:=fun W (hk:Keep [] w W)=>callsIn_wide (n:=2).2 (XM W base m p1 p2 F F1 F2 I (h.keep0 hk) true)
 gi_wp2_with (first
  | (refine⟨trivial,?_⟩;refine(hT _ (((Keep.refl _ _).alloc _).alloc _)).mono ?_;rintro e w' ⟨rfl,rfl⟩)
  | (refine⟨trivial,?_⟩;refine(Xs _ _ _ rfl).mono ?_;rintro e w' ⟨rfl,rfl⟩))
 obtain⟨w1,hw1⟩:∃ w1,w1=w.alloc (.cells #[.pointer (some ⟨m,0,none⟩)] 46):=⟨_,rfl⟩;obtain⟨w2,hw2⟩:∃ w2,w2=w1.alloc (.cells #[.slice none 0 0] 22):=⟨_,rfl⟩;obtain⟨w3,hw3⟩:∃ w3,w3=w2.alloc (.cells #[.pointer (some ⟨p2,0,none⟩)] 198):=⟨_,rfl⟩;rw[← hw1,← hw2,← hw3];have s1:w1.heap.size=w.heap.size+1:=by rw[hw1,World.size_alloc]
 have s2:w2.heap.size=w.heap.size+2:=by rw[hw2,World.size_alloc,s1]
 have s3:w3.heap.size=w.heap.size+3:=by rw[hw3,World.size_alloc,s2]
 have k1:Keep [] w w1:=by rw[hw1];exact(Keep.refl _ _).alloc _
 have k2:Keep [] w1 w2:=by rw[hw2];exact(Keep.refl _ _).alloc _
 have k3:Keep [] w2 w3:=by rw[hw3];exact(Keep.refl _ _).alloc _
 have kw:Keep [] w w3:=(k1.trans0 k2).trans0 k3;have b1:Boxed w3 w.heap.size 46 (.pointer (some ⟨m,0,none⟩)):=KA (by rw[hw1];exact Boxed.new w _ _) (k2.trans0 k3) (by simp);have b2:Boxed w3 (w.heap.size+1) 22 (.slice none 0 0):=KA (by rw[hw2,← s1];exact Boxed.new w1 _ _) k3 (by simp);have bc:Boxed w3 (w.heap.size+1+1) 198 (.pointer (some ⟨p2,0,none⟩)):=by rw[hw3,show w.heap.size+1+1=w2.heap.size by omega];exact Boxed.new w2 _ _
 have hlen:=h.ok.1;have h0:KFor w base m p1 p2 F F1 F2 I [] w3:=⟨⟨I.od,by have:=h.keep0 kw;simpa [Kn] using this⟩,⟨_,b2,World.ownsRow_nil _ _ _ _⟩,b1,kw.zero,Nat.zero_le _⟩;have hlt:=h.lt;have hseq:=KAh 2 (w.heap.size+1+1) base p2 I.ol.length F2 w3 ⟨I.ol,I.od,rfl,h.o.keep0 kw⟩ bc
 refine QO (n:=3) (gf:=208) (lb:=#[.pointer (some ⟨w.heap.size+1+1,0,none⟩)]) rfl (enters_of Tryz.func208 (by kernel_rfl) rfl)
  hseq
  (fun A B C h k=>⟨fun hb=>k.1 (h.1 hb),fun hb=>k.2 (h.2 hb)⟩)
  (fun W l o o' hl hg' ho=>⟨fun hb=>ZC o' hb hg' ho,fun⟨ls,ds,q1,q2⟩=>⟨ls,ds,q1,q2.putObj o' hg' ho⟩⟩)
  (fun _=>rfl) (KFor w base m p1 p2 F F1 F2 I) (fun s A B h hk=>h.kept hk) (fun s W l o o' h hl hg' ho=>h.turned (by omega) hg' ho)
  (fun pre x W l o o' h hl hg' ho=>⟨h.1,by obtain⟨ls,ds,q1,q2,q3⟩:=h.2;exact⟨ls,ds,q1,q2.putObj o' hg' ho,q3⟩⟩) h0
  (fun x=>{ tmps:=#[.pointer (some ⟨m,0,none⟩),.pointer (some ⟨w.heap.size,0,none⟩),.pointer (some ⟨w.heap.size+1,0,none⟩),.int .i64 (x.1:Nat),undef,.pointer (some ⟨m,0,none⟩),.pointer (some ⟨p2,0,none⟩),
    .func (.func 208) #[] #[.pointer (some ⟨w.heap.size+1+1,0,none⟩)],.int .i64 (x.1:Nat),.int .i64 x.2,undef,undef,undef,undef,undef,undef,undef,undef,undef,undef,undef,undef,undef],defers:=[] }) ?assign ?body ?done
 case assign=>
  rintro l ⟨k,z⟩ W K hK;dsimp only[VM] at hK ⊢
  gi_wp2
  exact hK
 case body=>
  rintro l pre ⟨k,z⟩ W hI ⟨hk,ls,ds,q1,q2,q3⟩;dsimp only at hk q3 ⊢;obtain⟨od,him⟩:=hI.img;obtain⟨ov,hb2,hov⟩:=hI.out;have hzz:=him.o.unique q2;subst hk;have hkl:pre.length<I.ol.length:=by rw[← q1];exact(List.getElem?_eq_some_iff.1 q3).1
  have hO:=JAZ (k:=pre.length) hkl;have hG:=YAY (k:=pre.length) hkl;have hrngO:=QAR (ol:=I.ol) (k:=pre.length+1) h.ok.2.2;have hOl:(Kn I.ol pre.length).length=I.ol.length:=Yl (by omega);rw[hO] at hrngO;have hb2l:=hb2.lt;have hb1l:=hI.b1.lt;have hIk:=hI.keep;have hIb:=hI.b1;have hF2n:∀ x∈F2,x<w.heap.size:=fun x hx=>hlt x (him.subO x hx);have hfoot:=him.foot;have hsz:=hI.keep.size;obtain⟨c0,c1⟩:=him.cells;have d1:=hI.b1.cell
  have hPost:∀ (gn cO:List Int),Kn I.ol (pre.length+1)=cO→Xv I.ol (pre.length+1)=gn→∀ (W':World) (od':List Bool) (ov':Value) (K:List Nat),ImageIs W' base m p1 p2 F F1 F2 ⟨I.bl,I.bd,cO,od'⟩→Boxed W' (w.heap.size+1) 22 ov' →
   W'.ownsRow w.heap.size 3 1 ov' gn.length (VI gn)→Keep K W W'→(∀ x∈K,x∈F∨(w.heap.size<x∧(Boxed W (w.heap.size+1+1) 198 (.pointer (some ⟨p2,0,none⟩))→¬ x=w.heap.size+1+1)∧∀ o,W.heap[x]? = some o→o.isCells=true)) →
   KeepsFrom w3.heap.size W W'∧KAW base p2 I.ol.length (w.heap.size+1+1) F2 W W'∧KFor w base m p1 p2 F F1 F2 I (pre++[(pre.length,z)]) W':=by
   intro gn cO eO eG W' od' ov' K g1 g2 g3 hK hKx
   have hsub:∀ x∈K,x≠w.heap.size∧(Boxed W (w.heap.size+1+1) 198 (.pointer (some ⟨p2,0,none⟩))→x≠w.heap.size+1+1):=fun x hx=>by
    rcases hKx x hx with h | h
    · have:=hlt x h;exact⟨by omega,fun _=>by omega⟩
    · exact⟨by omega,h.2.1⟩
   refine⟨hK.fromCells (fun x hx o ho=>?_) _,⟨fun hb=>KA hb hK (fun hm=>(hsub _ hm).2 hb rfl),fun _=>?_⟩,⟨?_,?_,KA hIb hK (fun hm=>(hsub _ hm).1 rfl),?_,by simp;omega⟩⟩
   · rcases hKx x hx with h | h
     · rw[hfoot] at h
       simp only[List.mem_cons,List.mem_append] at h;rcases h with rfl | h | h
       · rw[show W.heap[_]? = _ from him.blk] at ho;cases ho;rfl
       · exact him.b.isCells x h o ho
       · exact him.o.isCells x h o ho
     · exact h.2.2 o ho
   · refine⟨_,_,?_,g1.o⟩
     rw[← eO,Yl (by omega)]
   · rw[List.length_append,List.length_singleton,eO];exact⟨_,g1⟩
   · rw[List.length_append,List.length_singleton,eG];exact⟨_,g2,g3⟩
   · exact hIk.trans hK (fun x hx=>(hKx x hx).imp id (fun h=>by omega))
  have HPOST:=XC hPost;have HFOOT:=XC hfoot;have HS3:=XC s3;obtain⟨OA,oc,rfl,_⟩:=JB hov;have HIM:=XC him;have HB2:=XC hb2;have HOV:=XC hov;have hOx:pre.length<(Kn I.ol pre.length).length:=by omega
  have hgl:(Kn I.ol pre.length)[pre.length]=I.ol[pre.length]:=by
   have:=YAu (k:=pre.length) hkl;rw[List.getElem?_eq_getElem hOx] at this;exact Option.some.inj this
  have hTs:=callsIn_wide (n:=0).2 (JAr W base p2 F2 _ _ him.o pre.length hOx (-1));simp only[hgl] at hTs;have hor:=h.ok.2.2 _ (List.getElem_mem hkl);have hfewI:=him.o.few;simp only at hfewI;have hgs:0≤VF I.ol[pre.length] (-1)∧VF I.ol[pre.length] (-1)<4096:=JAA hor
  have hgc:(Xv I.ol pre.length).length≤64:=by
   have:=VAF I.ol pre.length;omega
  generalize VF I.ol[pre.length] (-1)=y at *;have hos:=him.o;have hblk:=him.blk;have hmlt:m<w.heap.size:=hlt m (by rw[him.foot];simp);have hm2':=him.m2;have hPp:=hPost;clear hPp h0 b1 b2 bc kw k1 k2 k3 hw1 hw2 hw3 s1 s2 s3 hseq hI hPost hfoot hgl hor;have HRO:=XC hrngO;clear hrngO;have HO:=XC hO;have HG:=XC hG;clear hO hG;generalize Xv I.ol pre.length=gl at *;clear hov hb2;have hovm:∀ g,(Value.slice OA gl.length oc).ownBlock=some g→w.heap.size≤g:=fun g hg=>(own_mem (JA HOV) (by simpa using hg)).1;have hovF:∀ g,(Value.slice OA gl.length oc).ownBlock=some g→g∉F2:=fun g hg hm=>by have:=hovm g hg;have:=hF2n g hm;omega
  have hovB:(Value.slice OA gl.length oc).ownBlock≠some (w.heap.size+1):=fun e=>(JA HB2).not_row (by decide) (JA HOV) e.symm;have hovA:(Value.slice OA gl.length oc).ownBlock≠some w.heap.size:=fun e=>hIb.not_row (by decide) (JA HOV) e.symm;have hF2b:∀ x∈F2,x≠w.heap.size∧x≠w.heap.size+1:=fun x hx=>by have:=hF2n x hx;omega
  by_cases hy:0<y
  · have hy0:¬ y≤0:=by omega
    gi_wp2_with (first
     | (refine⟨trivial,?_⟩;refine hTs.mono ?_;clear hTs;rintro e W2 ⟨rfl,hp1,hk2⟩;(have hb2':=KA (JA HB2) hk2 (fun hm=>(hF2b _ hm).2 rfl));(have e2:=hb2'.cell);(have ho2:=XB (JA HOV) hk2 hovF);(have hsz2:=hk2.size))
     | (gi_at_builtin;refine elemIntsN.wpIn_app rfl _ _ rfl w.heap.size _ gl.length (VI gl) rfl (VC ho2 _) ⟨W2.heap.size,0,none⟩ 1 1 [.int .i64 y] rfl (JQ _ _ _) (by simp[Value.oneCell']) (by omega) (by omega) (by simp;omega) ?_;intro v' W3 hv' hk3 hat;(obtain⟨VA,vc,rfl,_⟩:=JB hv');(have hkA:Keep (Value.slice OA gl.length oc).ownBlock.toList W2 W3:=((Keep.refl _ _).alloc _).trans hk3 (fun x hx=>.inl hx));(have hb3:=KA hb2' hkA (by simpa using hovB));(have e3:=hb3.cell);(have f3:=hb3.frozen)))
    have hkS:Keep [w.heap.size+1] W3 (W3.setCell ⟨w.heap.size+1,0,none⟩ (.slice VA (gl.length+1) vc)):=(Keep.refl _ _).setCell (.inl (by simp)) _;have hFo:Apart F (Value.slice OA gl.length oc).ownBlock.toList:=fun x hx hm=>by have:=hovm x (by simpa using hm);have:=hlt x hx;omega
    have hFB:Apart F [w.heap.size+1]:=fun x hx hm=>by have:=hlt x hx;simp at hm;omega
    have im:=((((JA HIM).setO hp1 hk2 (by simp) (JA HRO)).keep hkA hFo).keep hkS hFB);have hb5:=hb3.set (.slice VA (gl.length+1) vc);have hv5:=own_set (o:=0) hv' (fun hm=>hb3.not_row (by decide) hv' (Eq.symm (by simpa using hm))) (.slice VA (gl.length+1) vc)
    have hKK:Keep (F++((Value.slice OA gl.length oc).ownBlock.toList++[w.heap.size+1])) W _:=
     ((hk2.sub (fun x hx=>List.mem_append_left _ ((JA HIM).subO x hx))).trans hkA (fun x hx=>.inl (by simp at hx;simp[hx]))).trans hkS (fun x hx=>.inl (by simp at hx;simp[hx]))
    have hGL:Xv I.ol (pre.length+1)=gl++[y]:=by rw[JA HG,if_pos hy]
    refine JA HPOST _ _ (JA HO) hGL _ _ _ _ im hb5 ?_ hKK ?_
    · rw[List.length_append,List.length_singleton,show VI (gl++[y])=VI gl++[.int .i64 y] by simp[VI,i64]];exact hv5
    · intro x hx
      rcases List.mem_append.1 hx with hx | hx
      · exact .inl hx
      · rcases List.mem_append.1 hx with hx | hx
        · have h1:=hovm x (by simpa using hx)
          refine .inr ⟨?_,fun hb e=>?_,fun o ho=>KO (JA HOV) x hx o ho⟩
          · refine Nat.lt_of_le_of_ne h1 (fun e=>?_)
            subst e;exact hovA (by simpa using hx)
          · subst e;exact hb.not_row (by decide) (JA HOV) (Eq.symm (by simpa using hx))
        · simp at hx
          subst hx;exact .inr ⟨by omega,fun _=>by omega,fun o ho=>by rw[show W.heap[_]? = _ from JA HB2] at ho;cases ho;rfl⟩
  · have hy0:y=0:=by omega
    subst hy0
    gi_wp2_with (refine⟨trivial,?_⟩;refine hTs.mono ?_;clear hTs;rintro e W2 ⟨rfl,hp1,hk2⟩;(have hb2':=KA (JA HB2) hk2 (fun hm=>(hF2b _ hm).2 rfl));(have ho2:=XB (JA HOV) hk2 hovF))
    have im:=(JA HIM).setO hp1 hk2 (by simp) (JA HRO);have hKK:Keep F W W2:=hk2.sub (fun x hx=>(JA HIM).subO x hx);have hGL:Xv I.ol (pre.length+1)=gl:=by rw[JA HG,if_neg (by omega),List.append_nil]
    exact JA HPOST _ _ (JA HO) hGL _ _ _ _ im hb2' ho2 hKK (fun x hx=>.inl hx)
 case done=>
  intro D' xs W hD' hS hI hdef;obtain⟨od,him⟩:=hI.img;obtain⟨ov,hb2,hov⟩:=hI.out;rw[hS] at him hov;obtain⟨gl,hgl⟩:∃ gl,gl=Xv I.ol I.ol.length:=⟨_,rfl⟩;rw[← hgl] at hov;have HGL:=XC hgl;clear hgl;obtain⟨OA,oc,rfl,_⟩:=JB hov;have hc2:=hb2.cell;have hf2:=hb2.frozen;have HI:=XC hI;have HOV:=XC hov;have HIM:=XC him;clear h0 b1 b2 bc kw k1 k2 k3 hw1 hw2 hw3 s1 s2 hseq hI hov him
  gi_wp2
  have hI:=JA HI;have hov:=JA HOV;have him:=JA HIM;have hKs:Keep [w.heap.size+1] W (W.setCell ⟨w.heap.size+1,0,none⟩ (.slice OA gl.length oc)):=(Keep.refl _ _).setCell (p:=⟨w.heap.size+1,0,none⟩) (.inl (by simp)) _;have hdef2:(W.setCell ⟨w.heap.size+1,0,none⟩ (.slice OA gl.length oc)).heap[D']? = some (.deferred (some [])):=(hKs.block D' (Array.getElem?_eq_some_iff.1 hdef).1 (by simp;omega)).trans hdef;have q6:=(ZC (.deferred none) (hb2.set (.slice OA gl.length oc)) hdef2 rfl).cell;have hkw:=(hI.keep.trans hKs (fun x hx=>.inr (by simp at hx;omega))).putObj (g:=D') (by omega) (.deferred none);have hov2:=ownsRow_putObj (own_set hov (fun hm=>hb2.not_row (by decide) hov (Eq.symm (by simpa using hm))) (.slice OA gl.length oc)) (.deferred none) hdef2 rfl;have him2:=(him.keep hKs (fun x hx hm=>by have:=hlt x hx;simp at hm;omega)).putObj (.deferred none) hdef2 rfl;refine⟨by simp,.inl ⟨_,_,rfl,run_takeDeferred hdef2,?_⟩⟩;refine⟨.slice OA gl.length oc,?_,_,_,rfl,by rw[JA HGL] at hov2 ⊢;exact hov2,⟨_,_,_,_,him2⟩,hkw⟩;simp[results,Tryz.results156,go_sem,q6]
end
section
open Go.RowKit Go.Shelf
theorem elemBoolE:Elem Tryz.prog 160 4 (.bool false) 1:=Elem.of Tryz.underlying160 (by kernel_rfl) rfl
theorem YAA (w:World) (base p:Nat) (F:List Nat) (l:List Int) (ds:List Bool) (h:PagedAt w base p F l ds) :
 Calls Tryz.prog 313 #[.pointer (some ⟨p,0,none⟩)] w fun e w'=>e=.returned (.tuple #[])∧PagedAt w' base p F l (List.replicate ds.length false)∧Keep F w w':=by
 obtain⟨L,U,h⟩:=h;obtain⟨g,c,u,uc,rfl,rfl,hgu,hpg,hpu⟩:=h.forms;obtain⟨c0,c1,c2⟩:=h.cells;have hF:=h.foot
 obtain⟨cur,hb,hus,hun,hum,hubs⟩:∃ cur:List Value,Blk w u 4 cur.toArray∧cur.length=uc∧ds.length≤uc∧uc≤9223372036854775807∧base≤u:=by
  rcases h.rd.2 with⟨he,_⟩ | ⟨g',cap,cur,he,hb,hg,hn,hm,hs,ht⟩
  · cases he
  · cases he
    exact⟨cur.toList,hg,by simpa using hs,hn,by simpa [maxLen] using hm,hb⟩
 obtain⟨w',hrun,hb',hk'⟩:=elemBoolE.run_clear w 0 (some ⟨u,0,none⟩) ds.length uc u 0 cur _ hb (fun _=>rfl) (by omega) rfl
 have hres:PagedIs w' base p (.slice (some ⟨g,0,none⟩) l.length c) (.slice (some ⟨u,0,none⟩) ds.length uc) F l (List.replicate ds.length false):=by
  refine⟨h.blk.keep hk' (by simpa using hpu),XB h.rl hk' (fun x hx=>by simp[Value.ownBlock] at hx;subst hx;simpa using hgu),?_,h.foot,h.base,h.pos,h.few,by rw[List.length_replicate];exact h.pages⟩;rw[List.length_replicate];refine QX hb' hubs hun hum (by simp[splice];omega) ?_;simp[splice,List.take_append_of_le_length]
 have hkk:Keep F w w':=hk'.sub (m:=F) (by rw[hF];simp[Value.ownBlock])
 go_enter Tryz.func313,Tryz.ntmps313
 go_wp2
 go_end0
 exact⟨rfl,⟨_,_,hres⟩,hkk⟩
theorem Zm (w:World) (base p:Nat) (F:List Nat) (l:List Int) (ds:List Bool) (h:PagedAt w base p F l ds) :
 Calls Tryz.prog 394 #[.pointer (some ⟨p,0,none⟩)] w fun e w'=>e=.returned (.int .i64 (ds.length:Nat))∧w=w':=by
 obtain⟨L,U,h⟩:=h;obtain⟨g,c,u,uc,rfl,rfl,_⟩:=h.forms;obtain⟨c0,c1,c2⟩:=h.cells
 go_enter Tryz.func394,Tryz.ntmps394
 go_wp2
 go_ret;exact⟨rfl,rfl⟩
theorem VAb (w:World) (base m:Nat) (F:List Nat) (I:PImage) (h:ImageAt w base m F I) :
 Calls Tryz.prog 242 #[.pointer (some ⟨m,0,none⟩)] w fun e w'=>e=.returned (.tuple #[])∧ImageAt w' base m F ⟨I.bl,List.replicate I.bd.length false,I.ol,List.replicate I.od.length false⟩∧Keep F w w':=by
 obtain⟨p1,p2,F1,F2,h⟩:=h;have hT1:=XM w base m p1 p2 F F1 F2 I h false;have hs1:=h.subB;have hs2:=h.subO;have hC1:=YAA w base p1 F1 I.bl I.bd h.b;simp only[Bool.false_eq_true,if_false] at hT1
 go_enter Tryz.func242,Tryz.ntmps242
 go_wp2_with (first
  | (go_at_call 119;refine hT1.mono ?_;clear hT1;rintro e w' ⟨rfl,rfl⟩)
  | (go_at_call 313;refine hC1.mono ?_;clear hC1;rintro e w1 ⟨rfl,hp1,hk1⟩;(have h1:=h.setB hp1 hk1 rfl h.ok.2.1);(have hT2:=XM w1 base m p1 p2 F F1 F2 _ h1 true))
  | (go_at_call 119;refine hT2.mono ?_;clear hT2;rintro e w' ⟨rfl,rfl⟩;(have hC2:=YAA w1 base p2 F2 _ _ h1.o))
  | (go_at_call 313;refine hC2.mono ?_;clear hC2;rintro e w2 ⟨rfl,hp2,hk2⟩))
 go_end0
 exact⟨rfl,⟨_,_,_,_,h1.setO hp2 hk2 rfl h1.ok.2.2⟩,(hk1.sub hs1).trans (hk2.sub hs2) (fun x hx=>.inl hx)⟩
end
end Go.Proofs.YtkonbpfbjiepfaaGreat
