/-
  A part of the proof: lemmas, and contracts of functions; their conditions stand in them.
-/
import Derived.Test.YtkonbpfbjiepfaaGreatB40
import Derived.Test.YtkonbpfbjiepfaaGreatB37
import Derived.Test.YtkonbpfbjiepfaaGreatB34
import Derived.Test.YtkonbpfbjiepfaaGreatB32
import Derived.Test.YtkonbpfbjiepfaaGreatB12
import Derived.Test.YtkonbpfbjiepfaaGreatB16
import Derived.Test.YtkonbpfbjiepfaaGreatB10
import Derived.Test.YtkonbpfbjiepfaaGreatB39
namespace Go.Proofs.YtkonbpfbjiepfaaGreat
set_option linter.unusedSimpArgs false
set_option linter.unusedVariables false
set_option maxHeartbeats 16000000
set_option maxRecDepth 100000
section
open Go.RowKit Go.Shelf
attribute [local go_sem] Oper.semAt_some
theorem QAQ (w:World) (f d g t m mb B:Nat) (Fm:List Nat) (BA OA:Option Addr) (bc oc UA uc:Nat) (od:List Bool) (hf:Blk w f 311 #[.pointer (some ⟨d,0,none⟩),.pointer (some ⟨g,0,none⟩),.int .i64 B,.int .i64 8,.int .i64 24,.int .i64 1,.int .i64 1,.int .i64 1,.int .i64 1,.int .i64 1,.int .i64 0,.int .i64 0,.int .i64 0,.int .i64 0,.int .i64 0,.int .i64 1,.int .i64 0,.int .i64 1,.slice BA (pgs B) bc,.slice OA (pgs B) oc,.slice (some ⟨UA,0,none⟩) 8 uc,.int .i64 0,.pointer (some ⟨t,0,none⟩),.pointer (some ⟨m,0,none⟩),.int .i64 1,.int .i64 1,.int .i64 0,.int .i64 0,.int .i64 0,.int .i64 0,.int .i64 1,.int .i64 0,.int .i64 0,.int .i64 0,.int .i64 0,.int .i64 0,.int .i64 1,.int .i64 0,.int .i64 1]) (hI:ImageAt w mb m Fm ⟨List.replicate B 0,List.replicate (pgs B) false,List.replicate B (-1),od⟩) (hfm:f∉Fm) :
 Calls Tryz.prog 301 #[.pointer (some ⟨f,0,none⟩)] w fun e w'=>e = .returned (.tuple #[])∧∃ od',ImageAt w' mb m Fm ⟨List.replicate B 0,List.replicate (pgs B) false,List.replicate B (-1),od'⟩∧Blk w' f 311 #[.pointer (some ⟨d,0,none⟩),.pointer (some ⟨g,0,none⟩),.int .i64 B,.int .i64 8,.int .i64 24,.int .i64 1,.int .i64 1,.int .i64 1,.int .i64 1,.int .i64 1,.int .i64 0,.int .i64 0,.int .i64 0,.int .i64 0,.int .i64 0,.int .i64 1,.int .i64 0,.int .i64 1,.slice BA (pgs B) bc,.slice OA (pgs B) oc,.slice (some ⟨UA,0,none⟩) 8 uc,.int .i64 0,.pointer (some ⟨t,0,none⟩),.pointer (some ⟨m,0,none⟩),.int .i64 1,.int .i64 1,.int .i64 0,.int .i64 0,.int .i64 0,.int .i64 0,.int .i64 1,.int .i64 0,.int .i64 0,.int .i64 0,.int .i64 0,.int .i64 0,.int .i64 1,.int .i64 0,.int .i64 1]∧Keep (f :: Fm) w w':=by
 have hFo:=YAE w mb m Fm _ hI
 have hco:Kc (List.replicate B (-1)) (List.replicate B (-1)).length=List.replicate B (-1):=by rw [KN,List.length_replicate]
 simp only [hco] at hFo
 clear hco
 have c23:w.cell? ⟨f,23,none⟩=some (.pointer (some ⟨m,0,none⟩)):=by simpa using hf.cell 23
 go_enter Tryz.func301,Tryz.ntmps301
 go_wp2_with (
  refine hFo.mono ?_
  clear hFo c23
  rintro e w2 ⟨G,od',rfl,hG,hI2,hk2⟩
  have hf2:=hf.keep hk2 hfm
  have c28:w2.cell? ⟨f,28,none⟩=some (.int .i64 0):=by simpa using hf2.cell 28
  have c27:w2.cell? ⟨f,27,none⟩=some (.int .i64 0):=by simpa using hf2.cell 27
  have g27:=hf2.frozen 27
  have hlt:=hf2.lt)
 have hz:=hf2.set 27 (.int .i64 0)
 simp only [List.setIfInBounds_toArray,List.set_cons_zero,List.set_cons_succ] at hz
 have hkz:Keep [f] w2 (w2.setCell ⟨f,27,none⟩ (.int .i64 0)):=(Keep.refl _ _).setCell (p:=⟨f,27,none⟩) (.inl (by simp)) _
 go_end0
 exact ⟨rfl,od',hI2.keep hkz (fun x hx hm=>by simp at hm;subst hm;exact hfm hx),hz,(hk2.sub (fun x hx=>List.mem_cons_of_mem _ hx)).trans (hkz.sub (fun x hx=>by simp at hx;simp [hx])) (fun x hx => .inl hx)⟩
def FwS (b f d g:Nat) (W:World):Prop:=W.cell? ⟨b,0,none⟩=some (.pointer (some ⟨f,0,none⟩))∧W.cell? ⟨f,0,none⟩=some (.pointer (some ⟨d,0,none⟩))∧W.cell? ⟨f,1,none⟩=some (.pointer (some ⟨g,0,none⟩)) ∧
 W.cell? ⟨f,13,none⟩=some (.int .i64 0)∧W.cell? ⟨f,14,none⟩=some (.int .i64 0)∧W.cell? ⟨f,15,none⟩=some (.int .i64 1)∧W.cell? ⟨f,16,none⟩=some (.int .i64 0)∧W.cell? ⟨f,17,none⟩=some (.int .i64 1)
theorem XAM (w:World) (f d g t m mb base B:Nat) (F Fm:List Nat) (D:PDisk) (BA OA:Option Addr) (bc oc UA uc:Nat) (od:List Bool) (hf:Blk w f 311 #[.pointer (some ⟨d,0,none⟩),.pointer (some ⟨g,0,none⟩),.int .i64 B,.int .i64 8,.int .i64 24,.int .i64 1,.int .i64 1,.int .i64 1,.int .i64 1,.int .i64 1,.int .i64 0,.int .i64 0,.int .i64 0,.int .i64 0,.int .i64 0,.int .i64 1,.int .i64 0,.int .i64 1,.slice BA (pgs B) bc,.slice OA (pgs B) oc,.slice (some ⟨UA,0,none⟩) 8 uc,.int .i64 0,.pointer (some ⟨t,0,none⟩),.pointer (some ⟨m,0,none⟩),.int .i64 1,.int .i64 1,.int .i64 0,.int .i64 0,.int .i64 0,.int .i64 0,.int .i64 1,.int .i64 0,.int .i64 0,.int .i64 0,.int .i64 0,.int .i64 0,.int .i64 0,.int .i64 0,.int .i64 0]) (hI:ImageAt w mb m Fm ⟨List.replicate B 0,List.replicate (pgs B) false,List.replicate B (-1),od⟩) (h:DiskAt w base d F D) (hg:GeomAt w g B) (hoff:D.off=false) (hn:D.n=198+4*pgs B) (hfl:∀ k,k<D.n→D.faults[k]? = some false) (hz0:seg 64 D.now (6+4*pgs B)=List.replicate 64 0) (hfm:f∉Fm) :
 Calls Tryz.prog 221 #[.pointer (some ⟨f,0,none⟩)] w fun e w'=>e = .returned (.int .i64 0)∧∃ od',ImageAt w' mb m Fm ⟨List.replicate B 0,List.replicate (pgs B) false,List.replicate B (-1),od'⟩∧Blk w' f 311 #[.pointer (some ⟨d,0,none⟩),.pointer (some ⟨g,0,none⟩),.int .i64 B,.int .i64 8,.int .i64 24,.int .i64 1,.int .i64 1,.int .i64 1,.int .i64 1,.int .i64 1,.int .i64 0,.int .i64 0,.int .i64 0,.int .i64 0,.int .i64 0,.int .i64 1,.int .i64 0,.int .i64 1,.slice BA (pgs B) bc,.slice OA (pgs B) oc,.slice (some ⟨UA,0,none⟩) 8 uc,.int .i64 0,.pointer (some ⟨t,0,none⟩),.pointer (some ⟨m,0,none⟩),.int .i64 1,.int .i64 1,.int .i64 0,.int .i64 0,.int .i64 0,.int .i64 0,.int .i64 1,.int .i64 0,.int .i64 0,.int .i64 0,.int .i64 0,.int .i64 0,.int .i64 1,.int .i64 0,.int .i64 1]∧Keep (f :: Fm) w w':=by
 refine (callsIn_wide (n:=6)).1 ?_
 refine callsIn_of_wp_marks Tryz.func221 rfl trivial ?_ rfl
 simp only [Tryz.ntmps221,List.size_toArray,List.length_cons,List.length_nil,Nat.reduceAdd,Nat.reduceSub,Array.replicate_succ,Array.replicate_zero,List.push_toArray,List.append_toArray,List.nil_append,List.cons_append]
 have hlt:=hf.lt
 have hFml:=hI.lt
 have hkA:Keep [] w (w.alloc (.cells #[.pointer (some ⟨f,0,none⟩)] 309)):=(Keep.refl _ _).alloc _
 have hbx:=Boxed.new w 309 (.pointer (some ⟨f,0,none⟩))
 have hfA:=hf.keep0 hkA
 gi_wp2
 generalize (w.alloc (.cells #[.pointer (some ⟨f,0,none⟩)] 309))=w1 at *
 have hbD:=JA hbx (Keep.refl [] w1).drew (by simp)
 have hfD:=hfA.drew
 refine KG (wpIn_wide.2 ?_)
 refine KA (FwS w.heap.size f d g) 13 [(0,false),(1,false),(2,false),(3,false),(4,false),(5,false),(6,false),(7,false),(8,false),(9,false),(10,false),(11,false),(12,false)]
  (by kernel_rfl) (by kernel_rfl) (fun _ _ d _ _ h=>by cases d <;> exact h) ⟨hbD.cell,by simpa using hfD.cell 0,by simpa using hfD.cell 1,by simpa using hfD.cell 13,by simpa using hfD.cell 14,by simpa using hfD.cell 15,by simpa using hfD.cell 16,by simpa using hfD.cell 17⟩ ?_
 simp only [PI]
 iterate 13 (refine XB ?_ (by rfl) ?_ ?_;rotate_left;(focus (rintro W ⟨hW0,hW1,hW2,hW3,hW4,hW5,hW6,hW7⟩;go_simp;try with_reducible rfl));simp only [Act.put,PU])
 refine JC ?_
 have hCN:=JAG w1.drew d g
 go_wp2_with (
  refine hCN.mono ?_
  clear hCN
  rintro e w2 ⟨c,rfl,hc,hcl,hk2⟩)
 have hkw2:Keep [] w w2:=hkA.drew.trans0 hk2
 have hb2:=JA hbD hk2 (by simp)
 have hf2:=hfD.keep0 hk2
 have hc0:=hb2.cell
 have c17:w2.cell? ⟨f,17,none⟩=some (.int .i64 1):=by simpa using hf2.cell 17
 have hlt2:=hf2.lt
 clear hbD hfD hbx hfA hk2
 have hRi:=VAQ (6-1) (.pointer (some ⟨c,0,none⟩)) (w2.alloc (.cells #[.int .i64 1] 3)) rfl
 gi_wp2_with (refine ⟨trivial,?_⟩;refine hRi.mono ?_;clear hRi;rintro e w' ⟨rfl,rfl⟩)
 have hszV:(w2.alloc (.cells #[.int .i64 1] 3)).heap.size=w2.heap.size+1:=by simp
 obtain ⟨w3,hw3⟩:∃ w3,w3=(w2.alloc (.cells #[.int .i64 1] 3)).alloc (.cells #[.pointer (some ⟨c,0,none⟩)] 392):=⟨_,rfl⟩
 have hkw3:Keep [] w2 w3:=by rw [hw3];exact ((Keep.refl [] w2).alloc _).alloc _
 have hbc:Boxed w3 (w2.heap.size+1) 392 (.pointer (some ⟨c,0,none⟩)):=by rw [hw3,← hszV];exact Boxed.new _ _ _
 rw [← hw3]
 clear hw3 hszV hc0 c17 hlt2
 replace hc:QE w3 c d g:=Blk.keep0 hc hkw3
 replace hb2:=JA hb2 hkw3 (by simp)
 replace hf2:=hf2.keep0 hkw3
 have hkw:Keep [] w w3:=hkw2.trans0 hkw3
 have hcw:w.heap.size≤c:=Nat.le_trans hkA.drew.size hcl
 have hcl3:c<w3.heap.size:=by unfold QE at hc;exact hc.lt
 have hcn:c≠w2.heap.size+1:=fun e=>by unfold QE at hc;rw [e] at hc;exact Blk.ne_ hbc hc (by decide) rfl
 have hcb:c≠w.heap.size:=fun e=>by unfold QE at hc;rw [e] at hc;exact Blk.ne_ hb2 hc (by decide) rfl
 have hsz2:=hkw2.size
 refine Kb (n:=6) (gf:=349) (lb:=#[.pointer (some ⟨w2.heap.size+1,0,none⟩)]) rfl (enters_of Tryz.func349 (by kernel_rfl) rfl) [c] (fun x hx=>by simp at hx;omega) (fun W=>QE W c d g)
  (fun W l o o' h hl hg' ho=>JI o' h hg' ho) (fun l W hW _=>?_) (fun D' W hD' hk hG hdef=>?_)
 · refine (Yy (6-1) W (.func (.yield l) #[] #[]) rfl (w2.heap.size+1) c d g B base F D (JA hbc hW (by simp)) (Blk.keep0 hc hW) (hg.keep0 (hkw.trans0 hW)) (h.keep0 (hkw.trans0 hW)) hoff hn (hfl _ (by omega)) hz0 (fun hm=>by have:=h.lt c hm;omega) (fun e=>by have:=hg.lt;omega) (fun e=>hcn e.symm)).mono ?_
   rintro e w' ⟨h1,h2,h3⟩
   exact ⟨h1,h3,h2⟩
 · have hfc:f≠c:=fun e=>by unfold QE at hG;have h1:=hf2.keep0 (Keep.refl [] w3);rw [e] at h1;exact Blk.ne_ h1 hc (by decide) rfl
   have hIW:=(hI.keep0 hkw).keep hk (fun x hx hm=>by have:=hI.lt x hx;simp at hm;omega)
   have u1:=hf2.keep hk (by simpa using hfc)
   have u2:=JA hb2 hk (by simpa using fun e=>hcb e.symm)
   have hkW:Keep [] w W:=hkw.trans hk (fun x hx => .inr (by simp at hx;omega))
   clear hf2 hb2 hbc hc hk hkw hkw3 hkw2 hI
   have z0:=u2.cell
   gi_wp2
   clear z0
   refine KG (wpIn_wide.2 ?_)
   have hEnd:=fun X (hX:Keep [] W X)=>ZAH X c d g (Blk.keep0 hG hX)
   have hkd:Keep [] W W.drew:=(Keep.refl [] W).drew
   refine KA (fun X=>X.cell? ⟨w.heap.size,0,none⟩=some (.pointer (some ⟨f,0,none⟩))) 3 [(0,false),(1,false),(2,true)]
    (by kernel_rfl) (by kernel_rfl) (fun _ _ d _ _ h=>by cases d <;> exact h) ((JA u2 hkd (by simp)).cell) ?_
   simp only [PI]
   iterate 2 (refine XB ?_ (by rfl) ?_ ?_;rotate_left;(focus (intro W hW;obtain hW1:=hW;go_simp;try with_reducible rfl));simp only [Act.put,PU])
   refine JB (by rfl) (fun K hK=>?_)
   go_wp2_with (refine (hEnd _ hkd).mono ?_;rintro e W1 ⟨rfl,hk1⟩)
   have hkd1:=hkd.trans0 hk1
   replace u2:=JA u2 hkd1 (by simp)
   refine hK _ _ (u2.cell) ?_
   clear hK K
   try simp only [Act.put,PU]
   refine JC ?_
   replace u1:=u1.keep0 hkd1
   replace hIW:=hIW.keep0 hkd1
   replace hkW:=hkW.trans0 hkd1
   have hG1:QE W1 c d g:=Blk.keep0 hG hkd1
   have hdef1:=hkd1.heap_same hdef
   have c34:W1.cell? ⟨f,34,none⟩=some (.int .i64 0):=by simpa using u1.cell 34
   have c35:W1.cell? ⟨f,35,none⟩=some (.int .i64 0):=by simpa using u1.cell 35
   have c36:W1.cell? ⟨f,36,none⟩=some (.int .i64 0):=by simpa using u1.cell 36
   have c37:W1.cell? ⟨f,37,none⟩=some (.int .i64 0):=by simpa using u1.cell 37
   have c38:W1.cell? ⟨f,38,none⟩=some (.int .i64 0):=by simpa using u1.cell 38
   have g34:=u1.frozen 34
   have g35:=u1.frozen 35
   have g36:=u1.frozen 36
   have g37:=u1.frozen 37
   have g38:=u1.frozen 38
   have hltf:=u1.lt
   have hz:=(((((u1.set 34 (.int .i64 0)).set 35 (.int .i64 0)).set 36 (.int .i64 1)).set 37 (.int .i64 0)).set 38 (.int .i64 1))
   have hkz:=((((((Keep.refl [f] W1).setCell (p:=⟨f,34,none⟩) (.inl (by simp)) (.int .i64 0)).setCell (p:=⟨f,35,none⟩) (.inl (by simp)) (.int .i64 0)).setCell (p:=⟨f,36,none⟩) (.inl (by simp)) (.int .i64 1)).setCell (p:=⟨f,37,none⟩) (.inl (by simp)) (.int .i64 0)).setCell (p:=⟨f,38,none⟩) (.inl (by simp)) (.int .i64 1))
   simp only [List.setIfInBounds_toArray,List.set_cons_zero,List.set_cons_succ] at hz
   go_wp2_with fail
   have hcf:c∉[f]:=fun hm=>by simp at hm;exact hfc hm.symm
   have hG2:QE (((((W1.setCell ⟨f,34,none⟩ (.int .i64 0)).setCell ⟨f,35,none⟩ (.int .i64 0)).setCell ⟨f,36,none⟩ (.int .i64 1)).setCell ⟨f,37,none⟩ (.int .i64 0)).setCell ⟨f,38,none⟩ (.int .i64 1)) c d g:=Blk.keep hG1 hkz hcf
   have hI2:=hIW.keep hkz (fun x hx hm=>by simp at hm;subst hm;exact hfm hx)
   have u3:=JA u2 hkz (by simpa using Nat.ne_of_gt hlt)
   have hdf:D'≠f:=by omega
   have hdef2:=(hkz.block D' (Array.getElem?_eq_some_iff.1 hdef1).1 (by simpa using hdf)).trans hdef1
   have hkW2:=(hkW.zero (l:=[f])).trans hkz (fun x hx => .inl hx)
   clear hG1 hIW u1 u2 hdef1 hkW c34 c35 c36 c37 c38 g34 g35 g36 g37 g38 hltf hkz hdef hG hEnd hkd hk1 hkd1
   generalize (((((W1.setCell ⟨f,34,none⟩ (.int .i64 0)).setCell ⟨f,35,none⟩ (.int .i64 0)).setCell ⟨f,36,none⟩ (.int .i64 1)).setCell ⟨f,37,none⟩ (.int .i64 0)).setCell ⟨f,38,none⟩ (.int .i64 1))=W2 at *
   have hFg:=callsIn_wide (n:=6-1).2 (QAQ W2 f d g t m mb B Fm BA OA bc oc UA uc od hz hI2 hfm)
   have z0:=u3.cell
   have hER:=fun X (hX:QE X c d g)=>callsIn_wide (n:=6-1).2 (QAI X c d g hX)
   have hcm:c∉f :: Fm:=fun hm=>by
    rcases List.mem_cons.1 hm with e | hm
    · exact hfc e.symm
    · have:=hFml c hm;omega
   gi_wp2_with (first
    | (refine ⟨trivial,?_⟩
       refine hFg.mono ?_
       clear hFg z0
       rintro e W3 ⟨rfl,od',hI3,hz3,hk3⟩
       have hG3:QE W3 c d g:=Blk.keep hG2 hk3 hcm
       have hER3:=hER _ hG3)
    | (refine ⟨trivial,?_⟩;refine hER3.mono ?_;clear hER3;rintro e W4 ⟨rfl,rfl⟩))
   have hdm:D'∉f :: Fm:=fun hm=>by
    rcases List.mem_cons.1 hm with e | hm
    · exact hdf e
    · have:=hFml D' hm;omega
   have hdef3:=(hk3.block D' (Array.getElem?_eq_some_iff.1 hdef2).1 hdm).trans hdef2
   refine ⟨by simp,.inl ⟨_,_,rfl,run_takeDeferred hdef3,?_⟩⟩
   refine ⟨.int .i64 0,?_,rfl,od',(by obtain ⟨q1,q2,q3,q4,q5⟩:=hI3;exact ⟨q1,q2,q3,q4,q5.putObj _ hdef3 rfl⟩),JI _ hz3 hdef3 rfl,((hkW2.sub (fun x hx=>by simp at hx;simp [hx])).trans hk3 (fun x hx => .inl hx)).putObj (by omega) _⟩
   simp [results,Tryz.results221,go_sem]
end
section
open Go.RowKit Go.Shelf
attribute [local go_sem] Oper.semAt_some
theorem VAe (w:World) (base t g:Nat) (F:List Nat) (us:List (Nat×Nat)) (lv:List Nat) (h:TableAt w base t g F us lv) (s x:Nat) (hs:s<8) (hx:(us.getD s (0,0)).1=x) :
 Calls Tryz.prog 129 #[.pointer (some ⟨t,0,none⟩),.int .i64 (s:Nat)] w fun e w'=>e = .returned (.int .i64 x)∧w=w':=by
 obtain ⟨L,V,h⟩:=h
 have hH:=Xz w base t g L V F us lv h s hs
 obtain ⟨l,lc,v,vc,rfl,rfl,hlv,htl,htv⟩:=h.forms
 obtain ⟨c0,c1,c2⟩:=h.cells
 have hul:=h.ulen
 obtain ⟨u1,u2⟩:=h.use s hs
 rw [ZG (by omega)] at hx
 rw [hx] at u1
 have hsI:((s:Nat):Int)<8:=by omega
 clear hx
 go_enter Tryz.func129,Tryz.ntmps129
 go_wp2_with (refine hH.mono ?_;clear hH;rintro e w' ⟨rfl,rfl⟩)
 go_ret
 exact ⟨rfl,rfl⟩
theorem elem8B:ElemN Tryz.prog 39 5 (.int .u8 0) 1 1:=ElemN.of Tryz.underlying39 (by kernel_rfl) rfl (by omega)
def BegS (b f d g t:Nat) (W:World):Prop:=W.cell? ⟨b,0,none⟩=some (.pointer (some ⟨f,0,none⟩))∧W.cell? ⟨f,0,none⟩=some (.pointer (some ⟨d,0,none⟩))∧W.cell? ⟨f,1,none⟩=some (.pointer (some ⟨g,0,none⟩))∧W.cell? ⟨f,6,none⟩=some (.int .i64 2)∧W.cell? ⟨f,22,none⟩=some (.pointer (some ⟨t,0,none⟩))∧W.cell? ⟨f,34,none⟩=some (.int .i64 0)∧W.cell? ⟨f,35,none⟩=some (.int .i64 0)∧W.cell? ⟨f,36,none⟩=some (.int .i64 1)∧W.cell? ⟨f,37,none⟩=some (.int .i64 0)∧W.cell? ⟨f,38,none⟩=some (.int .i64 2)
theorem BegS.of {W:World} {b f d g t m B:Nat} {BA OA:Option Addr} {bc oc UA uc:Nat} (h:Blk W f 311 #[.pointer (some ⟨d,0,none⟩),.pointer (some ⟨g,0,none⟩),.int .i64 B,.int .i64 8,.int .i64 24,.int .i64 1,.int .i64 2,.int .i64 1,.int .i64 1,.int .i64 1,.int .i64 0,.int .i64 0,.int .i64 0,.int .i64 0,.int .i64 0,.int .i64 1,.int .i64 0,.int .i64 1,.slice BA (pgs B) bc,.slice OA (pgs B) oc,.slice (some ⟨UA,0,none⟩) 8 uc,.int .i64 0,.pointer (some ⟨t,0,none⟩),.pointer (some ⟨m,0,none⟩),.int .i64 1,.int .i64 1,.int .i64 0,.int .i64 0,.int .i64 0,.int .i64 2,.int .i64 1,.int .i64 0,.int .i64 0,.int .i64 0,.int .i64 0,.int .i64 0,.int .i64 1,.int .i64 0,.int .i64 2]) (hb:Boxed W b 309 (.pointer (some ⟨f,0,none⟩))):BegS b f d g t W:=
 ⟨hb.cell,by simpa using h.cell 0,by simpa using h.cell 1,by simpa using h.cell 6,by simpa using h.cell 22,by simpa using h.cell 34,by simpa using h.cell 35,by simpa using h.cell 36,by simpa using h.cell 37,by simpa using h.cell 38⟩
theorem QAt (W:World) (k:Nat) (o:Obj):Keep [k] W (W.putObj k o):=
 ⟨(Keep.refl [] W).os,(Keep.refl [] W).tape,(Keep.refl [] W).output,by rw [World.putObj_size];exact Nat.le_refl _,fun i hi hn=>World.putObj_heap_other (by simp at hn;omega)⟩
theorem YBL {P X:World→Nat→Prop} {G:Prop} (f:(∀ a b,P a b→X a b)→G) (r:∀ a b,P a b→X a b):G:=f r
structure BgP (w5 V:World) (z:Nat):Prop where
 kp:Keep [] w5 V
 own:V.ownsRow w5.heap.size 5 1 (.slice (some ⟨z,0,none⟩) 64 64) 64 (bys (List.replicate 64 0))
theorem BgP.of {w5 w6 w7:World} {z:Nat} (hk:Keep [] w5 w6) (hz:z=w6.heap.size) (hb:Blk w7 z 5 (madeCells (Array.replicate 1 (.int .u8 0)) (64*1))) (hk7:Keep [] w6 w7):BgP w5 w7 z:=by
 subst hz
 exact ⟨hk.trans0 hk7,QP (e:=5) (s:=1) (z := .int .u8 0) hb (by omega) hk.size (by omega) (by simp [bys,by8]) rfl⟩
theorem BgP.keep {w5 V V':World} {z:Nat} (h:BgP w5 V z) (hk:Keep [] V V'):BgP w5 V' z:=⟨h.kp.trans0 hk,QB h.own hk⟩
theorem YAQ (w:World) (f d g t m mb tb base B:Nat) (F Fm Ft:List Nat) (D:PDisk) (BA OA:Option Addr) (bc oc UA uc:Nat) (od:List Bool) (hf:Blk w f 311 #[.pointer (some ⟨d,0,none⟩),.pointer (some ⟨g,0,none⟩),.int .i64 B,.int .i64 8,.int .i64 24,.int .i64 1,.int .i64 1,.int .i64 1,.int .i64 1,.int .i64 1,.int .i64 0,.int .i64 0,.int .i64 0,.int .i64 0,.int .i64 0,.int .i64 1,.int .i64 0,.int .i64 1,.slice BA (pgs B) bc,.slice OA (pgs B) oc,.slice (some ⟨UA,0,none⟩) 8 uc,.int .i64 0,.pointer (some ⟨t,0,none⟩),.pointer (some ⟨m,0,none⟩),.int .i64 1,.int .i64 1,.int .i64 0,.int .i64 0,.int .i64 0,.int .i64 0,.int .i64 1,.int .i64 0,.int .i64 0,.int .i64 0,.int .i64 0,.int .i64 0,.int .i64 1,.int .i64 0,.int .i64 1]) (hI:ImageAt w mb m Fm ⟨List.replicate B 0,List.replicate (pgs B) false,List.replicate B (-1),od⟩) (ht:TableAt w tb t g Ft us0 (List.replicate 8 0)) (h:DiskAt w base d F D) (hg:GeomAt w g B) (hoff:D.off=false) (hfuse:D.fuse = -1) (ha:D.acts≤1000000) (hn:D.n=198+4*pgs B) (h1:1≤B) (h2:B≤64) (hbase:base≤w.heap.size) (hfm:f∉Fm) (hft:f∉Ft) (hfF:f∉F) (htF:Apart Ft F) (hgF:g∉F) :
 Calls Tryz.prog 222 #[.pointer (some ⟨f,0,none⟩)] w fun e w'=>∃ p Fw F',e = .returned (.tuple #[.pointer (some ⟨p,0,none⟩),.int .i64 0])∧Blk w' f 311 #[.pointer (some ⟨d,0,none⟩),.pointer (some ⟨g,0,none⟩),.int .i64 B,.int .i64 8,.int .i64 24,.int .i64 1,.int .i64 2,.int .i64 1,.int .i64 1,.int .i64 1,.int .i64 0,.int .i64 0,.int .i64 0,.int .i64 0,.int .i64 0,.int .i64 1,.int .i64 0,.int .i64 1,.slice BA (pgs B) bc,.slice OA (pgs B) oc,.slice (some ⟨UA,0,none⟩) 8 uc,.int .i64 0,.pointer (some ⟨t,0,none⟩),.pointer (some ⟨m,0,none⟩),.int .i64 1,.int .i64 1,.int .i64 0,.int .i64 0,.int .i64 0,.int .i64 2,.int .i64 1,.int .i64 0,.int .i64 0,.int .i64 0,.int .i64 0,.int .i64 0,.int .i64 1,.int .i64 0,.int .i64 2]∧DiskAt w' base d F' ((D.write (6+4*pgs B) (List.replicate 64 0)).write 0 (JAK B 1 2)).flush∧WriterAt w' w.heap.size p d g t Fw ⟨⟨0,0,1,0,2⟩,[],[]⟩∧Keep (f :: F) w w'∧Grow w F F'∧Apart Fw F':=by
 refine (callsIn_wide (n:=6)).1 ?_
 refine callsIn_of_wp_marks Tryz.func222 rfl trivial ?_ rfl
 simp only [Tryz.ntmps222,List.size_toArray,List.length_cons,List.length_nil,Nat.reduceAdd,Nat.reduceSub,Array.replicate_succ,Array.replicate_zero,List.push_toArray,List.append_toArray,List.nil_append,List.cons_append]
 have hlt:=hf.lt
 have hFml:=hI.lt
 have hkA:Keep [] w (w.alloc (.cells #[.pointer (some ⟨f,0,none⟩)] 309)):=(Keep.refl _ _).alloc _
 have hbx:=Boxed.new w 309 (.pointer (some ⟨f,0,none⟩))
 have hfA:=hf.keep0 hkA
 have hszA:(w.alloc (.cells #[.pointer (some ⟨f,0,none⟩)] 309)).heap.size=w.heap.size+1:=by simp
 have hRi:=ZAc (6-1) (.pointer (some ⟨m,0,none⟩)) (w.alloc (.cells #[.pointer (some ⟨f,0,none⟩)] 309)) rfl
 have z0:=hbx.cell
 have c23:(w.alloc (.cells #[.pointer (some ⟨f,0,none⟩)] 309)).cell? ⟨f,23,none⟩=some (.pointer (some ⟨m,0,none⟩)):=by simpa using hfA.cell 23
 gi_wp2_with (refine ⟨trivial,?_⟩;refine hRi.mono ?_;clear hRi;rintro e w' ⟨rfl,rfl⟩)
 clear z0 c23
 obtain ⟨w2,hw2⟩:∃ w2,w2=(w.alloc (.cells #[.pointer (some ⟨f,0,none⟩)] 309)).alloc (.cells #[.pointer (some ⟨m,0,none⟩)] 46):=⟨_,rfl⟩
 have hkB:Keep [] (w.alloc (.cells #[.pointer (some ⟨f,0,none⟩)] 309)) w2:=by rw [hw2];exact (Keep.refl _ _).alloc _
 have hbm:Boxed w2 (w.heap.size+1) 46 (.pointer (some ⟨m,0,none⟩)):=by rw [hw2,← hszA];exact Boxed.new _ _ _
 rw [← hw2]
 have hkw:Keep [] w w2:=hkA.trans0 hkB
 have hb2:=JA hbx hkB (by simp)
 have hf2:=hfA.keep0 hkB
 clear hw2 hkB hkA hbx hfA hszA
 refine Kb (n:=6) (gf:=123) (lb:=#[.pointer (some ⟨w.heap.size+1,0,none⟩)]) rfl (enters_of Tryz.func123 (by kernel_rfl) rfl) [] (by simp) (fun _=>True)
  (fun W l o o' h hl hg' ho=>trivial) (fun l W hW hW2=>?_) (fun D' W hD' hk _ hdef=>?_)
 · refine (ZAT (6-1) (w.heap.size+1) mb m Fm _ w2 (hI.keep0 hkw) hbm (fun k=>⟨by rw [List.getD_eq_getElem?_getD,List.getElem?_replicate];split <;> simp,by rw [List.getD_eq_getElem?_getD,List.getElem?_replicate];split <;> simp⟩) l W hW hW2).mono ?_
   rintro e w' ⟨h1,h2⟩
   exact ⟨h1,h2,trivial⟩
 have u1:=hf2.keep0 hk
 have u2:=JA hb2 hk (by simp)
 have hkW:Keep [] w W:=hkw.trans0 hk
 have hD1:w.heap.size+2≤D':=by have:=hkw.size;have:=hbm.lt;omega
 clear hf2 hb2 hbm hkw hk
 have z0:=u2.cell
 have c6:W.cell? ⟨f,6,none⟩=some (.int .i64 1):=by simpa using u1.cell 6
 have g6:=u1.frozen 6
 have hn6:=(u1.set 6 (.int .i64 2))
 have hk6:=((Keep.refl [f] W).setCell (p:=⟨f,6,none⟩) (.inl (by simp)) (.int .i64 2))
 simp only [List.setIfInBounds_toArray,List.set_cons_zero,List.set_cons_succ] at hn6
 have hltW:=u1.lt
 gi_wp2
 have u3:=JA u2 hk6 (by simpa using Nat.ne_of_gt hlt)
 have hdef1:=(hk6.block D' (Array.getElem?_eq_some_iff.1 hdef).1 (by simp;omega)).trans hdef
 have hkW1:=(hkW.zero (l:=[f])).trans hk6 (fun x hx => .inl hx)
 clear z0 c6 g6 hltW u1 u2 hdef hkW hk6
 generalize (W.setCell ⟨f,6,none⟩ (.int .i64 2))=W1 at *
 have hkd:Keep [] W1 W1.drew:=(Keep.refl [] W1).drew
 refine KG (wpIn_wide.2 ?_)
 refine KA (fun X=>X.cell? ⟨w.heap.size,0,none⟩=some (.pointer (some ⟨f,0,none⟩))∧X.cell? ⟨f,6,none⟩=some (.int .i64 2)) 16 [(0,false),(1,false),(2,false),(3,false),(4,false),(5,false),(6,false),(7,false),(8,false),(9,false),(10,false),(11,false),(12,false),(13,false),(14,false),(15,true)]
  (by kernel_rfl) (by kernel_rfl) (fun _ _ d _ _ h=>by cases d <;> exact h) ⟨(JA u3 hkd (by simp)).cell,by simpa using (hn6.keep0 hkd).cell 6⟩ ?_
 simp only [PI]
 iterate 15 (refine XB ?_ (by rfl) ?_ ?_;rotate_left;(focus (rintro W ⟨hW0,hW1⟩;go_simp;try with_reducible rfl));simp only [Act.put,PU])
 have v1:=hn6.keep0 hkd
 have c29:W1.drew.cell? ⟨f,29,none⟩=some (.int .i64 0):=by simpa using v1.cell 29
 have g29:=v1.frozen 29
 have hltv:=v1.lt
 have v3:=JA u3 hkd (by simp)
 have hkv:=hkW1.trans0 hkd
 have hdefv:=hkd.heap_same hdef1
 clear hn6 u3 hkW1 hdef1 hkd
 generalize W1.drew=X1 at *
 have hn7:=((v1.set 29 (.int .i64 2)).set 38 (.int .i64 2))
 have hk7:=(((Keep.refl [f] X1).setCell (p:=⟨f,29,none⟩) (.inl (by simp)) (.int .i64 2)).setCell (p:=⟨f,38,none⟩) (.inl (by simp)) (.int .i64 2))
 simp only [List.setIfInBounds_toArray,List.set_cons_zero,List.set_cons_succ] at hn7
 have hn7a:=v1.set 29 (.int .i64 2)
 simp only [List.setIfInBounds_toArray,List.set_cons_zero,List.set_cons_succ] at hn7a
 have hk7a:=((Keep.refl [f] X1).setCell (p:=⟨f,29,none⟩) (.inl (by simp)) (.int .i64 2))
 have hfb:w.heap.size≠f:=Nat.ne_of_gt hlt
 refine JB (by rfl) (fun K hK=>?_)
 go_wp2_with fail
 refine hK _ _ (⟨(JA v3 hk7a (by simpa using hfb)).cell,by simpa using hn7a.cell 6⟩) ?_
 clear hK K
 try simp only [Act.put,PU]
 refine JC ?_
 have c38:(X1.setCell ⟨f,29,none⟩ (.int .i64 2)).cell? ⟨f,38,none⟩=some (.int .i64 1):=by simpa using hn7a.cell 38
 have g38:=hn7a.frozen 38
 have hltv2:=hn7a.lt
 go_wp2_with fail
 have u3:=JA v3 hk7 (by simpa using hfb)
 have hdef1:=(hk7.block D' (Array.getElem?_eq_some_iff.1 hdefv).1 (by simp;omega)).trans hdefv
 have hkW1:=hkv.trans hk7 (fun x hx => .inl hx)
 clear c29 g29 hltv c38 g38 hltv2 hn7a hk7a v1 v3 hdefv hkv hk7
 generalize ((X1.setCell ⟨f,29,none⟩ (.int .i64 2)).setCell ⟨f,38,none⟩ (.int .i64 2))=W2 at *
 gi_wp2
 refine KG (wpIn_wide.2 ?_)
 have hkd:Keep [] W2 W2.drew:=(Keep.refl [] W2).drew
 replace hn7:=hn7.keep0 hkd
 replace u3:=JA u3 hkd (by simp)
 replace hkW1:=hkW1.trans0 hkd
 replace hdef1:=hkd.heap_same hdef1
 clear hkd
 refine KA (BegS w.heap.size f d g t) 16 [(0,false),(1,false),(2,false),(3,false),(4,false),(5,false),(6,false),(7,false),(8,false),(9,false),(10,false),(11,false),(12,false),(13,false),(14,false),(15,false)]
  (by kernel_rfl) (by kernel_rfl) (fun _ _ d _ _ h=>by cases d <;> exact h) (BegS.of hn7 u3) ?_
 simp only [PI]
 iterate 16 (refine XB ?_ (by rfl) ?_ ?_;rotate_left;(focus (rintro W ⟨hW0,hW1,hW2,hW3,hW4,hW5,hW6,hW7,hW8,hW9⟩;go_simp;try with_reducible rfl));simp only [Act.put,PU])
 refine JC ?_
 have hgX:GeomAt W2.drew g B:=hg.keep hkW1 (by simpa using fun e:g=f=>Blk.ne_ hg.blk hf (by decide) e)
 have hNW:=JBB W2.drew d g t B hgX ⟨0,0,1,0,2⟩ (by simp [PPos.May])
 simp only [PPos.cs] at hNW
 go_wp2_with (refine hNW.mono ?_;clear hNW;rintro e w3 ⟨p,Fw,rfl,hw3,hk3⟩)
 have hszX:=hkW1.size
 have hDw:∀ x∈Fw,D'<x:=fun x hx=>Nat.lt_of_lt_of_le (Array.getElem?_eq_some_iff.1 hdef1).1 (hw3.ge x hx)
 replace hn7:=hn7.keep0 hk3
 replace u3:=JA u3 hk3 (by simp)
 replace hdef1:=hk3.heap_same hdef1
 have hwge:∀ x∈Fw,w.heap.size≤x:=fun x hx=>Nat.le_trans hszX (hw3.ge x hx)
 have hkW2:=hkW1.trans0 hk3
 clear hk3 hkW1 hgX
 generalize W2.drew.heap.size=bw at *
 have z0:=u3.cell
 have c2:w3.cell? ⟨f,2,none⟩=some (.int .i64 B):=by simpa using hn7.cell 2
 have c3:w3.cell? ⟨f,3,none⟩=some (.int .i64 8):=by simpa using hn7.cell 3
 have c4:w3.cell? ⟨f,4,none⟩=some (.int .i64 24):=by simpa using hn7.cell 4
 have c5:w3.cell? ⟨f,5,none⟩=some (.int .i64 1):=by simpa using hn7.cell 5
 have c6:w3.cell? ⟨f,6,none⟩=some (.int .i64 2):=by simpa using hn7.cell 6
 have hSE:=callsIn_wide (n:=6-1).2 (VAI B 1 2 h1 h2 (by omega) (by omega) w3)
 gi_wp2_with (refine ⟨trivial,?_⟩;refine hSE.mono ?_;clear hSE;rintro e w4 ⟨U,rfl,hU,hk4⟩;obtain ⟨ua,uc1,rfl,_,_⟩:=VE hU (by omega))
 clear z0 c2 c3 c4 c5 c6
 replace hn7:=hn7.keep0 hk4
 replace u3:=JA u3 hk4 (by simp)
 replace hdef1:=hk4.heap_same hdef1
 replace hw3:=hw3.keep0 hk4
 have hbu:=hkW2.size
 replace hkW2:=hkW2.trans0 hk4
 clear hk4
 generalize w3.heap.size=bu at *
 refine KG (wpIn_wide.2 ?_)
 have hkd:Keep [] w4 w4.drew:=(Keep.refl [] w4).drew
 replace hn7:=hn7.keep0 hkd
 replace u3:=JA u3 hkd (by simp)
 replace hkW2:=hkW2.trans0 hkd
 replace hdef1:=hkd.heap_same hdef1
 replace hw3:=hw3.keep0 hkd
 replace hU:=QB hU hkd
 clear hkd
 refine KA (BegS w.heap.size f d g t) 16 [(0,false),(1,false),(2,false),(3,false),(4,false),(5,false),(6,false),(7,false),(8,false),(9,false),(10,false),(11,false),(12,false),(13,false),(14,false),(15,false)]
  (by kernel_rfl) (by kernel_rfl) (fun _ _ d _ _ h=>by cases d <;> exact h) (BegS.of hn7 u3) ?_
 simp only [PI]
 iterate 16 (refine XB ?_ (by rfl) ?_ ?_;rotate_left;(focus (rintro W ⟨hW0,hW1,hW2,hW3,hW4,hW5,hW6,hW7,hW8,hW9⟩;go_simp;try with_reducible rfl));simp only [Act.put,PU])
 refine JC ?_
 have hSt:=VAe w4.drew tb t g Ft us0 _ (ht.keep hkW2 (fun x hx hm=>by simp at hm;subst hm;exact hft hx)) 0 1 (by omega) rfl
 go_wp2_with (refine hSt.mono ?_;clear hSt;rintro e w' ⟨rfl,rfl⟩)
 gi_wp2
 generalize w4.drew=w5 at *
 have hgX:GeomAt w5 g B:=hg.keep hkW2 (by simpa using fun e:g=f=>Blk.ne_ hg.blk hf (by decide) e)
 have hdX:DiskAt w5 base d F D:=h.keep hkW2 (fun x hx hm=>by simp at hm;subst hm;exact hfF hx)
 obtain ⟨sa,hsa⟩:∃ sa,sa=6+4*pgs B:=⟨_,rfl⟩
 have hSg:∀ X,Keep [] w5 X→Calls Tryz.prog 45 #[.pointer (some ⟨g,0,none⟩),.int .i64 0] X fun e w'=>e = .returned (.int .i64 (sa:Nat))∧Keep [] X w':=fun X hk=>by
  have:=Xm X g B (hgX.keep0 hk) 0 (by omega)
  rw [hsa]
  exact this
 have hsn:sa<D.n∧sa≤300:=by have:=(ZD h1 h2).2;omega
 have hsw:IntKind.i64.wrap ((sa:Nat):Int)=(sa:Nat):=by rw [IntKind.wrap_i64];omega
 have hkd:Keep [] w5 w5.drew:=(Keep.refl [] w5).drew
 have hbg:∀ X,Keep [] w5 X→BegS w.heap.size f d g t X:=fun X hk=>BegS.of (hn7.keep0 hk) (JA u3 hk (by simp))
 have HSA:=KB hsa
 have HN:=KB hn
 clear hsa hn hsn
 refine KG (wpIn_wide.2 ?_)
 refine wp_region_rt (BegS w.heap.size f d g t) 21 (.held 0 (.held 1 (.held 2 (.held 3 (.held 4 (.held 5 (.held 6 (.held 7 (.held 8 (.held 9 (.held 10 (.held 11 (.held 12 (.held 14 (.held 15 (.held 16 (.held 17 (.held 18 (.two 13 (.held 19 (.loud 20 .nil)) 20 (.loud 13 (.held 19 .nil)))))))))))))))))))))
  (by kernel_rfl) (by kernel_rfl) (fun _ _ d _ _ h=>by cases d <;> exact h) (hbg _ hkd) ?_
 simp only [RT.pick,PJ]
 iterate 18 (refine wpR_held ?_ (by rfl) ?_ ?_;rotate_left;(focus (rintro W ⟨hW0,hW1,hW2,hW3,hW4,hW5,hW6,hW7,hW8,hW9⟩;go_simp;try with_reducible rfl));simp only [Act.put,PU])
 refine @YBL (BgP w5) ?XA _ (fun hR=>?_) ?_
 rotate_left
 · refine wpR_two ?_ ?_
   · refine wpR_loud (by rfl) (fun K hK=>?_)
     go_wp2_with (refine (hSg _ hkd).mono ?_;rintro e w6 ⟨rfl,hk6⟩)
     have hkE:=hkd.trans0 hk6
     refine hK _ _ ((hbg _ hkE)) ?_
     clear hK K
     try simp only [Act.put,PU]
     iterate 1 (refine wpR_held ?_ (by rfl) ?_ ?_;rotate_left;(focus (rintro W ⟨hW0,hW1,hW2,hW3,hW4,hW5,hW6,hW7,hW8,hW9⟩;go_simp;try with_reducible rfl));simp only [Act.put,PU])
     refine wpR_loud (by rfl) (fun K hK=>?_)
     refine elem8B.wp1_make _ _ rfl .i64 .i64 64 rfl rfl (by omega) (by omega) ?_
     intro w7 z hz _ hbz hk7
     have hP:=BgP.of hkE hz hbz hk7
     refine hK _ _ ((hbg _ hP.kp)) ?_
     clear hK K
     try simp only [Act.put,PU]
     refine wpR_nil ?_
     exact hR w7 z hP
   · refine wpR_loud (by rfl) (fun K hK=>?_)
     refine elem8B.wp1_make _ _ rfl .i64 .i64 64 rfl rfl (by omega) (by omega) ?_
     intro w7 z hz _ hbz hk7
     have hP:=BgP.of hkd hz hbz hk7
     clear hz hbz hk7
     refine hK _ _ ((hbg _ hP.kp)) ?_
     clear hK K
     try simp only [Act.put,PU]
     refine wpR_loud (by rfl) (fun K hK=>?_)
     go_wp2_with (refine (hSg _ hP.kp).mono ?_;rintro e w6 ⟨rfl,hk6⟩)
     replace hP:=hP.keep hk6
     refine hK _ _ ((hbg _ hP.kp)) ?_
     clear hK K
     try simp only [Act.put,PU]
     iterate 1 (refine wpR_held ?_ (by rfl) ?_ ?_;rotate_left;(focus (rintro W ⟨hW0,hW1,hW2,hW3,hW4,hW5,hW6,hW7,hW8,hW9⟩;go_simp;try with_reducible rfl));simp only [Act.put,PU])
     refine wpR_nil ?_
     exact hR w6 z hP
 rintro V z ⟨hkV,hzo⟩
 replace hn7:=hn7.keep0 hkV
 replace u3:=JA u3 hkV (by simp)
 have hWr:=Va V base d F D (hdX.keep0 hkV) hoff hfuse (by omega) sa (by have:=XA HSA;have:=XA HN;have:=(ZD h1 h2).2;omega) (some ⟨z,0,none⟩) 64 (List.replicate 64 0) (Rd.of_own hzo) (fun a ha hm=>by cases ha;have h3:=hdX.lt _ hm;have h4:=(own_mem hzo (g:=z) (by simp [Value.ownBlock])).1;simp only at h3;omega) (Nat.le_trans hbase (Nat.le_trans hkW2.size hkV.size))
 have hwS:=hkW2.size
 have hVS:=hkV.size
 have hFlt:=h.lt
 have hG0:∀ x,(x∈F∨V.heap.size≤x)→x≠f∧x≠w.heap.size∧x≠D'∧x∉Fw∧x∉Ft∧x≠ua∧x≠g:=fun x hx=>by
  have a1:=hw3.lt
  have a2:=own_mem hU (g:=ua) (by simp [Value.ownBlock])
  have a3:D'<w5.heap.size:=(Array.getElem?_eq_some_iff.1 hdef1).1
  have a4:=ht.lt
  have a5:=hg.lt
  have a6:=u3.lt
  have a7:=hVS
  rcases hx with hx | hx
  · have:=hFlt x hx
    exact ⟨fun e=>hfF (e ▸ hx),by omega,by omega,fun hm=>by have:=hwge x hm;omega,fun hm=>htF x hm hx,by omega,fun e=>hgF (e ▸ hx)⟩
  · exact ⟨by omega,by omega,by omega,fun hm=>by have:=a1 x hm;omega,fun hm=>by have:=a4 x hm;omega,by omega,by omega⟩
 go_wp2_with (refine hWr.mono ?_;clear hWr;rintro e V1 ⟨rfl,F1,hd1,hkd1,hgr1⟩)
 have hkT:Keep (f :: F) w V1:=((hkW2.trans0 hkV).sub (fun x hx=>by simp at hx;simp [hx])).trans hkd1 (fun x hx => .inl (List.mem_cons_of_mem _ hx))
 replace hn7:=hn7.keep hkd1 (fun hm=>(hG0 _ (.inl hm)).1 rfl)
 replace u3:=JA u3 hkd1 (fun hm=>(hG0 _ (.inl hm)).2.1 rfl)
 replace hdef1:=(hkd1.block D' (Nat.lt_of_lt_of_le (Array.getElem?_eq_some_iff.1 hdef1).1 hVS) (fun hm=>(hG0 _ (.inl hm)).2.2.1 rfl)).trans (hkV.heap_same hdef1)
 have hw4:=(hw3.keep0 hkV).keep hkd1 (fun x hx hm=>(hG0 _ (.inl hm)).2.2.2.1 hx)
 replace hU:=ZB (QB hU hkV) hkd1 (fun x hx hm=>by simp [Value.ownBlock] at hx;subst hx;exact (hG0 _ (.inl hm)).2.2.2.2.2.1 rfl)
 have hgY:=(hgX.keep0 hkV).keep hkd1 (fun hm=>(hG0 _ (.inl hm)).2.2.2.2.2.2 rfl)
 have hV1s:=hkd1.size
 clear hSg hsw hbg hzo hdX hgX hw3
 gi_wp2
 refine KG (wpIn_wide.2 ?_)
 have hkd:Keep [] V1 V1.drew:=(Keep.refl [] V1).drew
 replace hn7:=hn7.keep0 hkd
 replace u3:=JA u3 hkd (by simp)
 replace hkT:=hkT.trans0 hkd
 replace hdef1:=hkd.heap_same hdef1
 replace hw4:=hw4.keep0 hkd
 replace hU:=QB hU hkd
 replace hgY:=hgY.keep0 hkd
 replace hd1:=hd1.keep0 hkd
 replace hV1s:V.heap.size≤V1.drew.heap.size:=hV1s
 clear hkd
 refine KA (BegS w.heap.size f d g t) 16 [(0,false),(1,false),(2,false),(3,false),(4,false),(5,false),(6,false),(7,false),(8,false),(9,false),(10,false),(11,false),(12,false),(13,false),(15,false),(14,true)]
  (by kernel_rfl) (by kernel_rfl) (fun _ _ d _ _ h=>by cases d <;> exact h) (BegS.of hn7 u3) ?_
 simp only [PI]
 iterate 15 (refine XB ?_ (by rfl) ?_ ?_;rotate_left;(focus (rintro W ⟨hW0,hW1,hW2,hW3,hW4,hW5,hW6,hW7,hW8,hW9⟩;go_simp;try with_reducible rfl));simp only [Act.put,PU])
 generalize V1.drew=V2 at *
 have hSu:=Yp V2 g 0 (by omega)
 refine JB (by rfl) (fun K hK=>?_)
 go_wp2_with (refine hSu.mono ?_;clear hSu;rintro e w' ⟨rfl,rfl⟩)
 refine hK _ _ ((BegS.of hn7 u3)) ?_
 clear hK K
 try simp only [Act.put,PU]
 refine JC ?_
 have hWr:=Va V2 base d F1 (D.write sa (List.replicate 64 0)) hd1 hoff hfuse (by show D.acts+1≤_;omega) 0 (by show 0<D.n;have:=XA HN;omega) (some ⟨ua,0,none⟩) uc1 (JAK B 1 2) (Rd.of_own hU) (fun a ha hm=>by cases ha;exact (hG0 _ (hgr1 _ hm)).2.2.2.2.2.1 rfl) (Nat.le_trans hbase (Nat.le_trans hwS (Nat.le_trans hVS hV1s)))
 go_wp2_with (refine hWr.mono ?_;clear hWr;rintro e V3 ⟨rfl,F2,hd2,hkd2,hgr2⟩)
 have hG1:Grow V F F2:=Grow.trans hgr1 hV1s hgr2
 have hno1:∀ x∈F1,x∈F∨V.heap.size≤x:=hgr1
 have hV2s:=hkd2.size
 replace hkT:=hkT.trans hkd2 (fun x hx=>(hno1 x hx).elim (fun h => .inl (List.mem_cons_of_mem _ h)) (fun h => .inr (Nat.le_trans hwS (Nat.le_trans hVS h))))
 replace hn7:=hn7.keep hkd2 (fun hm=>(hG0 _ (hno1 _ hm)).1 rfl)
 replace u3:=JA u3 hkd2 (fun hm=>(hG0 _ (hno1 _ hm)).2.1 rfl)
 replace hdef1:=(hkd2.block D' (Array.getElem?_eq_some_iff.1 hdef1).1 (fun hm=>(hG0 _ (hno1 _ hm)).2.2.1 rfl)).trans hdef1
 replace hw4:=hw4.keep hkd2 (fun x hx hm=>(hG0 _ (hno1 _ hm)).2.2.2.1 hx)
 clear hgY hU hd1 hno1 hkd1 hkd2
 have z0:=u3.cell
 have c0:V3.cell? ⟨f,0,none⟩=some (.pointer (some ⟨d,0,none⟩)):=by simpa using hn7.cell 0
 have hFl:=callsIn_wide (n:=6-1).2 (Qe V3 base d F2 _ hd2 hoff hfuse (by show D.acts+1+1≤_;omega) (Nat.le_trans hbase (Nat.le_trans hwS (Nat.le_trans hVS (Nat.le_trans hV1s hV2s)))))
 gi_wp2_with (refine ⟨trivial,?_⟩;refine hFl.mono ?_;clear hFl;rintro e V4 ⟨rfl,F3,hd3,hkd3,hgr3⟩)
 have hno2:∀ x∈F2,x∈F∨V.heap.size≤x:=hG1
 have hG2:Grow V F F3:=Grow.trans hG1 (Nat.le_trans hV1s hV2s) hgr3
 replace hkT:=hkT.trans hkd3 (fun x hx=>(hno2 x hx).elim (fun h => .inl (List.mem_cons_of_mem _ h)) (fun h => .inr (Nat.le_trans hwS (Nat.le_trans hVS h))))
 replace hn7:=hn7.keep hkd3 (fun hm=>(hG0 _ (hno2 _ hm)).1 rfl)
 replace hdef1:=(hkd3.block D' (Array.getElem?_eq_some_iff.1 hdef1).1 (fun hm=>(hG0 _ (hno2 _ hm)).2.2.1 rfl)).trans hdef1
 replace hw4:=hw4.keep hkd3 (fun x hx hm=>(hG0 _ (hno2 _ hm)).2.2.2.1 hx)
 clear u3 z0 c0
 have hno3:∀ x∈F3,x∈F∨V.heap.size≤x:=hG2
 refine ⟨by simp,.inl ⟨_,_,rfl,run_takeDeferred hdef1,?_⟩⟩
 have hkp:=QAt V4 D' (.deferred none)
 refine ⟨.tuple #[.pointer (some ⟨p,0,none⟩),.int .i64 0],?_,p,Fw,F3,rfl,hn7.keep hkp (by simp;omega),?_,?_,hkT.putObj (by omega) _,fun x hx=>(hno3 x hx).imp id (fun h=>Nat.le_trans hwS (Nat.le_trans hVS h)),fun x hx hm=>(hG0 _ (hno3 _ hm)).2.2.2.1 hx⟩
 · simp [results,Tryz.results222,go_sem]
 · have he:=XA HSA
   subst he
   exact hd3.keep hkp (fun x hx hm=>by simp at hm;subst hm;exact (hG0 _ (hno3 _ hx)).2.2.1 rfl)
 · have hw5:=hw4.keep hkp (fun x hx hm=>by simp at hm;have:=hDw x hx;omega)
   exact hw5.rebase hszX
end
section
open Go.RowKit Go.Shelf
def VV (l:List Int) (k:Nat):List Int:=(l.drop (k*15)).take 15
theorem QQ (l:List Int) (k:Nat):(VV l k).length=min 15 (l.length-k*15):=by simp [VV]
theorem Vz {l:List Int} {k:Nat} {x:Int} (h:x∈VV l k):x∈l:=List.mem_of_mem_drop (List.mem_of_mem_take h)
theorem YAO {k:Nat} (h:k<5):IntKind.i64.wrap (((k:Nat):Int)*15)=((k:Nat):Int)*15:=by rw [IntKind.wrap_i64];omega
theorem VAg {k:Nat} (h:k<5):IntKind.i64.wrap (((k:Nat):Int)+1)=((k:Nat):Int)+1:=by rw [IntKind.wrap_i64];omega
theorem XAD {k:Nat} (h:k<5):IntKind.i64.wrap ((((k:Nat):Int)+1)*15)=(((k:Nat):Int)+1)*15:=by rw [IntKind.wrap_i64];omega
theorem KBK (w:World) (base p:Nat) (F:List Nat) (l:List Int) (ds:List Bool) (h:PagedAt w base p F l ds) (k:Nat) (hk:k<ds.length) :
 Calls Tryz.prog 392 #[.pointer (some ⟨p,0,none⟩),.int .i64 (k:Nat)] w fun e w'=>∃ A c,e = .returned (.slice A (VV l k).length c)∧Rd w A (VV l k).length (KJ (VV l k))∧1≤(VV l k).length∧w'=w.drew:=by
 have hT:=Km w base p F l ds h
 obtain ⟨L,U,h⟩:=h
 obtain ⟨g,c,u,uc,rfl,rfl,hgu,hpg,hpu⟩:=h.forms
 obtain ⟨c0,c1,c2⟩:=h.cells
 have hpos:=h.pos
 have hfew:=h.few
 have hpgs:=h.pages
 have hb:15*pgs l.length≤l.length+14∧pgs l.length≤5:=by unfold pgs;omega
 rw [← hpgs] at hb
 have hcap:l.length≤c:=by
  rcases h.rl.2 with ⟨he,_⟩ | ⟨g',cap,cur,he,hb,hg,hn,hm,hs,ht⟩
  · cases he
  · cases he;exact hn
 obtain ⟨hi,hh1,hh2,hh3,hh4,hh5⟩:∃ hi:Nat,min (((k:Nat)+1)*15:Int) (l.length:Nat)=(hi:Nat)∧hi≤l.length∧k*15<hi∧hi≤k*15+15∧hi-k*15=min 15 (l.length-k*15):=⟨min ((k+1)*15) l.length,by omega,by omega,by omega,by omega,by omega⟩
 have hrd:=((Rd.of_own h.rl).cutA (k:=k*15) (cap:=c) (by omega) hcap).take (k:=hi-k*15) (by omega)
 have hpl:(VV l k).length=hi-k*15:=by rw [QQ,hh5]
 have hpe:((KJ l).drop (k*15)).take (hi-k*15)=KJ (VV l k):=by
  unfold VV KJ
  rw [List.map_take,List.map_drop,List.take_eq_take_iff]
  simp;omega
 rw [hpe] at hrd
 rw [hpl]
 have hk5:((k:Nat):Int)<5:=by omega
 have hkI:((k:Nat):Int)<(ds.length:Nat):=by omega
 clear hpe hpl hpgs h hh5
 generalize l.length=n at *
 generalize ds.length=q at *
 go_enter Tryz.func392,Tryz.ntmps392
 go_wp2_with (refine hT.mono ?_;clear hT;rintro e w' ⟨rfl,rfl⟩)
 refine KA (fun w'=>w'.cell? ⟨p,0,none⟩=some (.slice (some ⟨g,0,none⟩) n c)∧w'.cell? ⟨p,1,none⟩=some (.int .i64 15)) 23 [(0,false),(1,false),(2,false),(3,false),(4,false),(5,false),(6,false),(7,false),(8,false),(9,false),(10,false),(11,false),(12,false),(13,false),(14,false),(15,false),(16,false),(17,false),(18,false),(19,false),(20,false),(21,false),(22,false)]
  (by kernel_rfl) (by kernel_rfl) (fun _ _ d _ _ h=>by cases d <;> exact h) ⟨c0,c1⟩ ?_
 simp only [PI]
 iterate 23 (refine XB ?_ (by rfl) ?_ ?_;rotate_left;(focus (rintro W ⟨hW1,hW2⟩;go_simp;try with_reducible rfl));simp only [Act.put,PU])
 refine JC ?_
 go_wp2_with (refine VM rfl (.tmp 16) (some (.tmp 22)) (some (.tmp 35)) rfl (.slice (cutA (some ⟨g,0,none⟩) (k*15) c) (hi-k*15) (c-k*15)) ?hrun ?_)
 case hrun=>
  intro W
  have:=elemInts.run_lh (some ⟨g,0,none⟩) n c .i64 .i64 (((k:Nat):Int)*15) (hi:Nat) (by omega) (by omega) (by omega) W
  rw [show ((hi:Nat):Int).toNat-(((k:Nat):Int)*15).toNat=hi-k*15 by omega,show (((k:Nat):Int)*15).toNat=k*15 by omega] at this
  show Sem.run Tryz.prog (Instr.sliceAt 22 (.slice (some ⟨g,0,none⟩) n c) (some (.int .i64 (IntKind.i64.wrap (((k:Nat):Int)*15)))) (some (.int .i64 (min (IntKind.i64.wrap (IntKind.i64.wrap (((k:Nat):Int)+1)*15)) (n:Nat)))) none) W=_
  rw [YAO (by omega),VAg (by omega),XAD (by omega),hh1]
  exact this
 go_ret
 exact ⟨_,_,rfl,hrd,by omega,rfl⟩
theorem Vk (w:World) (base p:Nat) (F:List Nat) (l:List Int) (ds:List Bool) (h:PagedAt w base p F l ds) (k:Nat) (hk:k<ds.length) :
 Calls Tryz.prog 346 #[.pointer (some ⟨p,0,none⟩),.int .i64 (k:Nat)] w fun e w'=>∃ u,e = .returned u∧w'.ownsRow w.heap.size 3 1 u (VV l k).length (KJ (VV l k))∧Keep [] w w':=by
 have hT:=KBK w base p F l ds h k hk
 have hl:(VV l k).length≤15:=by rw [QQ];omega
 generalize VV l k=l2 at *
 go_enter Tryz.func346,Tryz.ntmps346
 go_wp2_with (first
  | (go_at_call 392;refine hT.mono ?_;clear hT;rintro e w' ⟨A,c,rfl,hrd,hpos,rfl⟩;(have hC:=YV A l2.length c l2 w.drew hrd.drew (by omega)))
  | (go_at_call 182;refine hC.mono ?_;clear hC;rintro e w' ⟨V,rfl,hV,hkV⟩;(have ho:=YAn hV)))
 go_ret
 exact ⟨_,rfl,hV,(Keep.refl _ _).drew.trans0 hkV⟩
theorem Zy (w:World) (base m:Nat) (F:List Nat) (I:PImage) (h:ImageAt w base m F I) (over:Bool) (k:Nat) (hk:k<(if over then I.od else I.bd).length) :
 Calls Tryz.prog 294 #[.pointer (some ⟨m,0,none⟩),.bool over,.int .i64 (k:Nat)] w fun e w'=>∃ u,e = .returned u∧w'.ownsRow w.heap.size 3 1 u (VV (if over then I.ol else I.bl) k).length (KJ (VV (if over then I.ol else I.bl) k))∧Keep [] w w':=by
 obtain ⟨p1,p2,F1,F2,h⟩:=h
 have hT:=VK w base m p1 p2 F F1 F2 I h over
 have hP:Calls Tryz.prog 346 #[.pointer (some ⟨if over then p2 else p1,0,none⟩),.int .i64 (k:Nat)] w fun e w'=>∃ u,e = .returned u∧w'.ownsRow w.heap.size 3 1 u (VV (if over then I.ol else I.bl) k).length (KJ (VV (if over then I.ol else I.bl) k))∧Keep [] w w':=by
  cases over
  · exact Vk w base p1 F1 I.bl I.bd h.b k hk
  · exact Vk w base p2 F2 I.ol I.od h.o k hk
 generalize VV (if over then I.ol else I.bl) k=l2 at *
 generalize (if over then p2 else p1)=pt at *
 go_enter Tryz.func294,Tryz.ntmps294
 go_wp2_with (first
  | (go_at_call 119;refine hT.mono ?_;clear hT;rintro e w' ⟨rfl,rfl⟩)
  | (go_at_call 346;refine hP.mono ?_;clear hP;rintro e w' ⟨V,rfl,hV,hkV⟩;(have ho:=YAn hV)))
 go_ret
 exact ⟨_,rfl,hV,hkV⟩
end
section
open Go.RowKit Go.Shelf
attribute [local go_sem] Oper.semAt_some
def YY (ds:List Bool) (k:Nat):List Nat:=(List.range k).filter (fun i=>ds.getD i false)
theorem JAL (ds:List Bool) (k:Nat):YY ds (k+1)=if ds.getD k false then YY ds k++[k] else YY ds k:=by
 unfold YY
 rw [List.range_succ,List.filter_append]
 cases h:ds.getD k false
 · rw [if_neg (by simp)];simp only [List.filter_cons,h];simp
 · rw [if_pos rfl];simp only [List.filter_cons,h];simp
def XAx (k:Nat):Array Value:=#[.int .i64 (k:Nat)]
def ZAx (ds:List Bool) (pre:List Nat) (k:Nat) (_:World):Prop:=k<ds.length∧pre=YY ds k∧ds.getD k false=true
def QAy (base p bc:Nat) (F:List Nat) (l:List Int) (ds:List Bool) (W W':World):Prop:=
 (Boxed W bc 198 (.pointer (some ⟨p,0,none⟩))→Boxed W' bc 198 (.pointer (some ⟨p,0,none⟩)))∧(PagedAt W base p F l ds→PagedAt W' base p F l ds)
theorem JAp (n:Nat) (v:Value) (w:World) (hv:v.oneCell'=true) :
 CallsIn Fence.wide n Tryz.prog 356 #[v] w fun e w'=>e = .returned (.func (.func 393) #[] #[.pointer (some ⟨w.heap.size,0,none⟩)])∧w'=w.alloc (.cells #[v] 198):=by
 refine (callsIn_wide (n:=n)).2 ?_
 go_enter Tryz.func356,Tryz.ntmps356
 go_wp2
 go_ret
 exact ⟨rfl,rfl⟩
theorem KAA (w:World) (base m p1 p2:Nat) (F F1 F2:List Nat) (I:PImage) (h:ImageIs w base m p1 p2 F F1 F2 I) (over:Bool) :
 Calls Tryz.prog 312 #[.pointer (some ⟨m,0,none⟩),.bool over] w fun e w'=>e = .returned (.func (.func 393) #[] #[.pointer (some ⟨w.heap.size,0,none⟩)])∧w'=w.alloc (.cells #[.pointer (some ⟨if over then p2 else p1,0,none⟩)] 198):=by
 have hT:=VK w base m p1 p2 F F1 F2 I h over
 generalize (if over then p2 else p1)=pt at *
 have hD:=(callsIn_wide (n:=0)).1 (JAp 0 (.pointer (some ⟨pt,0,none⟩)) w rfl)
 go_enter Tryz.func312,Tryz.ntmps312
 go_wp2_with (first
  | (go_at_call 119;refine hT.mono ?_;clear hT;rintro e w' ⟨rfl,rfl⟩)
  | (go_at_call 356;refine hD.mono ?_;clear hD;rintro e w' ⟨rfl,rfl⟩))
 go_ret
 exact ⟨rfl,rfl⟩
theorem YAc (n bc base p:Nat) (F:List Nat) (l:List Int) (ds:List Bool) (w:World) (hs:PagedAt w base p F l ds) (hbc:Boxed w bc 198 (.pointer (some ⟨p,0,none⟩))) :
 JBA n Tryz.prog 393 #[.pointer (some ⟨bc,0,none⟩)] XAx (ZAx ds) (QAy base p bc F l ds) (fun xs=>xs=YY ds ds.length) w:=by
 intro lb J W hW hJ hY h0
 replace hs:PagedAt W base p F l ds:=hs.keep0 hW
 replace hbc:Boxed W bc 198 (.pointer (some ⟨p,0,none⟩)):=(hW.block bc hbc.lt (by simp)).trans hbc
 have hcb:=hbc.cell
 have hd5:ds.length≤5:=by
  obtain ⟨L,U,h⟩:=hs
  have h1:=h.pages
  have h2:=h.few
  rw [h1];unfold pgs;omega
 have hT:=callsIn_wide (n:=n-1).2 (Km W base p F l ds hs)
 refine callsIn_of_wp Tryz.func393 rfl trivial ?_ rfl
 simp only [Tryz.ntmps393,List.size_toArray,List.length_cons,List.length_nil,Nat.reduceAdd,Nat.reduceSub,Array.replicate_succ,Array.replicate_zero,List.push_toArray,List.append_toArray,List.nil_append,List.cons_append]
 gi_wp2_with (refine ⟨trivial,fun h=>by simp [Fence.wide] at h,?_⟩;refine hT.mono ?_;clear hT;rintro e w' ⟨rfl,rfl⟩)
 gi_loopw [3,6] (fun _ i wr=>∃ (k:Nat) (pre:List Nat),k≤ds.length∧i = .int .i64 (k:Nat)∧J pre wr∧Hid (pre=YY ds k)∧PagedAt wr base p F l ds∧Boxed wr bc 198 (.pointer (some ⟨p,0,none⟩)))
  (fun _ i _=>ds.length-(intOf i).toNat)
 case atStart=>exact ⟨0,[],Nat.zero_le _,rfl,h0,rfl,hs,hbc⟩
 case round=>
  clear hs hbc h0 hcb
  obtain ⟨k,pre,hk,rfl,hJp,hpl,hs,hbc⟩:=hrel
  have hcb:=hbc.cell
  by_cases hlt:k<ds.length
  · have hltI:((k:Nat):Int)<(ds.length:Nat):=by omega
    have hPA:=hs
    obtain ⟨L,U,hP⟩:=hs
    obtain ⟨g,c,u,uc,rfl,rfl,_⟩:=hP.forms
    have hc2:=hP.cells.2.2
    have hds:=JAL ds k
    have hgd:ds.getD k false=ds[k]:=by rw [List.getD_eq_getElem?_getD,List.getElem?_eq_getElem hlt];rfl
    have hcx:wr.cell? ⟨u,k,none⟩=some (.bool ds[k]):=VI hP.rd (by simp [hlt])
    have HPA:=KB hPA
    have HDS:=KB hds
    have HGD:=KB hgd
    clear hP hPA hds hgd
    cases hdk:ds[k] with
    | true=>
      rw [hdk] at hcx
      obtain ⟨fn,tmps,assign,body,hy,hR⟩:=hY pre k wr hJp ⟨hlt,XA hpl,by rw [XA HGD];exact hdk⟩
      dsimp only [XAx] at hy
      have HDK:=KB hdk
      clear hdk
      have HLT:=KB hlt
      gi_wp2
      refine ⟨fun h=>by simp [Fence.wide] at h,hR.mono ?_⟩
      rintro e W3 ⟨rfl,hJ3,hb3,hs3⟩
      have hs4:=hs3 (XA HPA)
      clear hy hR hc2 hcx hs3
      gi_wp2
      go_roundw
      case rel=>exact ⟨k+1,_,by omega,by go_num,hJ3,by show _=_;rw [XA HDS,XA HGD,XA HDK,XA hpl];rfl,hs4,hb3 hbc⟩
      case measure=>simp [intOf];omega
    | false=>
      rw [hdk] at hcx
      have HDK:=KB hdk
      clear hdk hY
      gi_wp2
      refine ⟨fun f hf=>(by cases hf),?_⟩
      gi_wp2
      go_roundw
      case rel=>exact ⟨k+1,pre,by omega,by go_num,hJp,by show _=_;rw [XA HDS,XA HGD,XA HDK];exact XA hpl,XA HPA,hbc⟩
      case measure=>simp [intOf];omega
  · obtain rfl:k=ds.length:=by omega
    gi_wp2
    go_end0
    exact ⟨⟨_,rfl⟩,pre,XA hpl,hJp⟩
end
end Go.Proofs.YtkonbpfbjiepfaaGreat
