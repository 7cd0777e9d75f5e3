/- Lemmas of the proof, with their conditions. -/
import Derived.Test.YtkonbpfbjiepfaaGreatT36
namespace Go.Proofs.YtkonbpfbjiepfaaGreat
set_option linter.unusedSimpArgs false
set_option linter.unusedVariables false
set_option maxHeartbeats 16000000
set_option maxRecDepth 100000
section
open Go.RowKit Go.Shelf
attribute [local go_sem] Oper.semAt_some
theorem KAc (w:World) (base t g:Nat) (F:List Nat) (us:List (Nat×Nat)) (lv:List Nat) (h:TableAt w base t g F us lv) (s x:Nat) (hs:s<8) (hx:(us.getD s (0,0)).1=x) :
 Calls Tryz.prog 129 #[.pointer (some ⟨t,0,none⟩),.int .i64 (s:Nat)] w fun e w'=>e=.returned (.int .i64 x)∧w=w':=by
 obtain⟨L,V,h⟩:=h;have hH:=JAU w base t g L V F us lv h s hs;obtain⟨l,lc,v,vc,rfl,rfl,hlv,htl,htv⟩:=h.forms;obtain⟨c0,c1,c2⟩:=h.cells;have hul:=h.ulen;obtain⟨u1,u2⟩:=h.use s hs;rw[JH (by omega)] at hx;rw[hx] at u1;have hsI:((s:Nat):Int)<8:=by omega
 clear hx
 go_enter Tryz.func129,Tryz.ntmps129
 go_wp2_with (refine hH.mono ?_;clear hH;rintro e w' ⟨rfl,rfl⟩)
 go_ret;exact⟨rfl,rfl⟩
theorem elem8B:ElemN Tryz.prog 39 5 (.int .u8 0) 1 1:=ElemN.of Tryz.underlying39 (by kernel_rfl) rfl (by omega)
def BegS (b f d g t:Nat) (W:World):Prop:=W.cell? ⟨b,0,none⟩=some (.pointer (some ⟨f,0,none⟩))∧W.cell? ⟨f,0,none⟩=some (.pointer (some ⟨d,0,none⟩))∧W.cell? ⟨f,1,none⟩=some (.pointer (some ⟨g,0,none⟩))∧W.cell? ⟨f,6,none⟩=some (.int .i64 2)∧W.cell? ⟨f,22,none⟩=some (.pointer (some ⟨t,0,none⟩))∧W.cell? ⟨f,34,none⟩=some (.int .i64 0)∧W.cell? ⟨f,35,none⟩=some (.int .i64 0)∧W.cell? ⟨f,36,none⟩=some (.int .i64 1)∧W.cell? ⟨f,37,none⟩=some (.int .i64 0)∧W.cell? ⟨f,38,none⟩=some (.int .i64 2)
theorem BegS.of {W:World} {b f d g t m B:Nat} {BA OA:Option Addr} {bc oc UA uc:Nat} (h:Blk W f 311 #[.pointer (some ⟨d,0,none⟩),.pointer (some ⟨g,0,none⟩),.int .i64 B,.int .i64 8,.int .i64 24,.int .i64 1,.int .i64 2,.int .i64 1,.int .i64 1,.int .i64 1,.int .i64 0,.int .i64 0,.int .i64 0,.int .i64 0,.int .i64 0,.int .i64 1,.int .i64 0,.int .i64 1,.slice BA (pgs B) bc,.slice OA (pgs B) oc,.slice (some ⟨UA,0,none⟩) 8 uc,.int .i64 0,.pointer (some ⟨t,0,none⟩),.pointer (some ⟨m,0,none⟩),.int .i64 1,.int .i64 1,.int .i64 0,.int .i64 0,.int .i64 0,.int .i64 2,.int .i64 1,.int .i64 0,.int .i64 0,.int .i64 0,.int .i64 0,.int .i64 0,.int .i64 1,.int .i64 0,.int .i64 2]) (hb:Boxed W b 309 (.pointer (some ⟨f,0,none⟩))):BegS b f d g t W:=
 ⟨hb.cell,by simpa using h.cell 0,by simpa using h.cell 1,by simpa using h.cell 6,by simpa using h.cell 22,by simpa using h.cell 34,by simpa using h.cell 35,by simpa using h.cell 36,by simpa using h.cell 37,by simpa using h.cell 38⟩
theorem KAo (W:World) (k:Nat) (o:Obj):Keep [k] W (W.putObj k o):=
 ⟨(Keep.refl [] W).os,(Keep.refl [] W).tape,(Keep.refl [] W).output,by rw[World.putObj_size];exact Nat.le_refl _,fun i hi hn=>World.putObj_heap_other (by simp at hn;omega)⟩
theorem QBB {P X:World→Nat→Prop} {G:Prop} (f:(∀ a b,P a b→X a b)→G) (r:∀ a b,P a b→X a b):G:=f r
structure BgP (w5 V:World) (z:Nat):Prop where
 kp:Keep [] w5 V
 own:V.ownsRow w5.heap.size 5 1 (.slice (some ⟨z,0,none⟩) 64 64) 64 (bys (List.replicate 64 0))
theorem BgP.of {w5 w6 w7:World} {z:Nat} (hk:Keep [] w5 w6) (hz:z=w6.heap.size) (hb:Blk w7 z 5 (madeCells (Array.replicate 1 (.int .u8 0)) (64*1))) (hk7:Keep [] w6 w7):BgP w5 w7 z:=by
 subst hz;exact⟨hk.trans0 hk7,XJ (e:=5) (s:=1) (z:=.int .u8 0) hb (by omega) hk.size (by omega) (by simp[bys,by8]) rfl⟩
theorem BgP.keep {w5 V V':World} {z:Nat} (h:BgP w5 V z) (hk:Keep [] V V'):BgP w5 V' z:=⟨h.kp.trans0 hk,QB h.own hk⟩
theorem KAO (w:World) (f d g t m mb tb base B:Nat) (F Fm Ft:List Nat) (D:PDisk) (BA OA:Option Addr) (bc oc UA uc:Nat) (od:List Bool) (hf:Blk w f 311 #[.pointer (some ⟨d,0,none⟩),.pointer (some ⟨g,0,none⟩),.int .i64 B,.int .i64 8,.int .i64 24,.int .i64 1,.int .i64 1,.int .i64 1,.int .i64 1,.int .i64 1,.int .i64 0,.int .i64 0,.int .i64 0,.int .i64 0,.int .i64 0,.int .i64 1,.int .i64 0,.int .i64 1,.slice BA (pgs B) bc,.slice OA (pgs B) oc,.slice (some ⟨UA,0,none⟩) 8 uc,.int .i64 0,.pointer (some ⟨t,0,none⟩),.pointer (some ⟨m,0,none⟩),.int .i64 1,.int .i64 1,.int .i64 0,.int .i64 0,.int .i64 0,.int .i64 0,.int .i64 1,.int .i64 0,.int .i64 0,.int .i64 0,.int .i64 0,.int .i64 0,.int .i64 1,.int .i64 0,.int .i64 1]) (hI:ImageAt w mb m Fm ⟨List.replicate B 0,List.replicate (pgs B) false,List.replicate B (-1),od⟩) (ht:TableAt w tb t g Ft us0 (List.replicate 8 0)) (h:DiskAt w base d F D) (hg:GeomAt w g B) (hoff:D.off=false) (hfuse:D.fuse = -1) (ha:D.acts≤1000000) (hn:D.n=198+4*pgs B) (h1:1≤B) (h2:B≤64) (hbase:base≤w.heap.size) (hfm:f∉Fm) (hft:f∉Ft) (hfF:f∉F) (htF:Apart Ft F) (hgF:g∉F) :
 Calls Tryz.prog 222 #[.pointer (some ⟨f,0,none⟩)] w fun e w'=>∃ p Fw F',e=.returned (.tuple #[.pointer (some ⟨p,0,none⟩),.int .i64 0])∧Blk w' f 311 #[.pointer (some ⟨d,0,none⟩),.pointer (some ⟨g,0,none⟩),.int .i64 B,.int .i64 8,.int .i64 24,.int .i64 1,.int .i64 2,.int .i64 1,.int .i64 1,.int .i64 1,.int .i64 0,.int .i64 0,.int .i64 0,.int .i64 0,.int .i64 0,.int .i64 1,.int .i64 0,.int .i64 1,.slice BA (pgs B) bc,.slice OA (pgs B) oc,.slice (some ⟨UA,0,none⟩) 8 uc,.int .i64 0,.pointer (some ⟨t,0,none⟩),.pointer (some ⟨m,0,none⟩),.int .i64 1,.int .i64 1,.int .i64 0,.int .i64 0,.int .i64 0,.int .i64 2,.int .i64 1,.int .i64 0,.int .i64 0,.int .i64 0,.int .i64 0,.int .i64 0,.int .i64 1,.int .i64 0,.int .i64 2]∧DiskAt w' base d F' ((D.write (6+4*pgs B) (List.replicate 64 0)).write 0 (QAG B 1 2)).flush∧WriterAt w' w.heap.size p d g t Fw ⟨⟨0,0,1,0,2⟩,[],[]⟩∧Keep (f :: F) w w'∧Grow w F F'∧Apart Fw F':=by
 refine(callsIn_wide (n:=6)).1 ?_;refine callsIn_of_wp_marks Tryz.func222 rfl trivial ?_ rfl;simp only[Tryz.ntmps222,List.size_toArray,List.length_cons,List.length_nil,Nat.reduceAdd,Nat.reduceSub,Array.replicate_succ,Array.replicate_zero,List.push_toArray,List.append_toArray,List.nil_append,List.cons_append];have hlt:=hf.lt;have hFml:=hI.lt;have hkA:Keep [] w (w.alloc (.cells #[.pointer (some ⟨f,0,none⟩)] 309)):=(Keep.refl _ _).alloc _;have hbx:=Boxed.new w 309 (.pointer (some ⟨f,0,none⟩));have hfA:=hf.keep0 hkA;have hszA:(w.alloc (.cells #[.pointer (some ⟨f,0,none⟩)] 309)).heap.size=w.heap.size+1:=by simp
 have hRi:=QAV (6-1) (.pointer (some ⟨m,0,none⟩)) (w.alloc (.cells #[.pointer (some ⟨f,0,none⟩)] 309)) rfl;have z0:=hbx.cell;have c23:(w.alloc (.cells #[.pointer (some ⟨f,0,none⟩)] 309)).cell? ⟨f,23,none⟩=some (.pointer (some ⟨m,0,none⟩)):=by simpa using hfA.cell 23
 gi_wp2_with (refine⟨trivial,?_⟩;refine hRi.mono ?_;clear hRi;rintro e w' ⟨rfl,rfl⟩)
 clear z0 c23;obtain⟨w2,hw2⟩:∃ w2,w2=(w.alloc (.cells #[.pointer (some ⟨f,0,none⟩)] 309)).alloc (.cells #[.pointer (some ⟨m,0,none⟩)] 46):=⟨_,rfl⟩;have hkB:Keep [] (w.alloc (.cells #[.pointer (some ⟨f,0,none⟩)] 309)) w2:=by rw[hw2];exact(Keep.refl _ _).alloc _
 have hbm:Boxed w2 (w.heap.size+1) 46 (.pointer (some ⟨m,0,none⟩)):=by rw[hw2,← hszA];exact Boxed.new _ _ _
 rw[← hw2];have hkw:Keep [] w w2:=hkA.trans0 hkB;have hb2:=KA hbx hkB (by simp);have hf2:=hfA.keep0 hkB;clear hw2 hkB hkA hbx hfA hszA
 refine XT (n:=6) (gf:=123) (lb:=#[.pointer (some ⟨w.heap.size+1,0,none⟩)]) rfl (enters_of Tryz.func123 (by kernel_rfl) rfl) [] (by simp) (fun _=>True)
  (fun W l o o' h hl hg' ho=>trivial) (fun l W hW hW2=>?_) (fun D' W hD' hk _ hdef=>?_)
 · refine(QAO (6-1) (w.heap.size+1) mb m Fm _ w2 (hI.keep0 hkw) hbm (fun k=>⟨by rw[List.getD_eq_getElem?_getD,List.getElem?_replicate];split <;> simp,by rw[List.getD_eq_getElem?_getD,List.getElem?_replicate];split <;> simp⟩) l W hW hW2).mono ?_
   rintro e w' ⟨h1,h2⟩;exact⟨h1,h2,trivial⟩
 have u1:=hf2.keep0 hk;have u2:=KA hb2 hk (by simp);have hkW:Keep [] w W:=hkw.trans0 hk;have hD1:w.heap.size+2≤D':=by have:=hkw.size;have:=hbm.lt;omega
 clear hf2 hb2 hbm hkw hk;have z0:=u2.cell;have c6:W.cell? ⟨f,6,none⟩=some (.int .i64 1):=by simpa using u1.cell 6
 have g6:=u1.frozen 6;have hn6:=(u1.set 6 (.int .i64 2));have hk6:=((Keep.refl [f] W).setCell (p:=⟨f,6,none⟩) (.inl (by simp)) (.int .i64 2));simp only[List.setIfInBounds_toArray,List.set_cons_zero,List.set_cons_succ] at hn6;have hltW:=u1.lt
 gi_wp2
 have u3:=KA u2 hk6 (by simpa using Nat.ne_of_gt hlt);have hdef1:=(hk6.block D' (Array.getElem?_eq_some_iff.1 hdef).1 (by simp;omega)).trans hdef;have hkW1:=(hkW.zero (l:=[f])).trans hk6 (fun x hx=>.inl hx);clear z0 c6 g6 hltW u1 u2 hdef hkW hk6;generalize (W.setCell ⟨f,6,none⟩ (.int .i64 2))=W1 at *;have hkd:Keep [] W1 W1.drew:=(Keep.refl [] W1).drew;refine XF (wpIn_wide.2 ?_);refine ZT (fun X=>X.cell? ⟨w.heap.size,0,none⟩=some (.pointer (some ⟨f,0,none⟩))∧X.cell? ⟨f,6,none⟩=some (.int .i64 2)) 16 [[0,1,2,3,4,5,6,7,8,9,10,11,12,13,14],[15]] ⟨(KA u3 hkd (by simp)).cell,by simpa using(hn6.keep0 hkd).cell 6⟩ ?_;simp only[PI]
 iterate 15 (refine ZH ?_;simp only[Act.put,PU])
 have v1:=hn6.keep0 hkd;have c29:W1.drew.cell? ⟨f,29,none⟩=some (.int .i64 0):=by simpa using v1.cell 29
 have g29:=v1.frozen 29;have hltv:=v1.lt;have v3:=KA u3 hkd (by simp);have hkv:=hkW1.trans0 hkd;have hdefv:=hkd.heap_same hdef1;clear hn6 u3 hkW1 hdef1 hkd;generalize W1.drew=X1 at *;have hn7:=((v1.set 29 (.int .i64 2)).set 38 (.int .i64 2));have hk7:=(((Keep.refl [f] X1).setCell (p:=⟨f,29,none⟩) (.inl (by simp)) (.int .i64 2)).setCell (p:=⟨f,38,none⟩) (.inl (by simp)) (.int .i64 2));simp only[List.setIfInBounds_toArray,List.set_cons_zero,List.set_cons_succ] at hn7;have hn7a:=v1.set 29 (.int .i64 2);simp only[List.setIfInBounds_toArray,List.set_cons_zero,List.set_cons_succ] at hn7a;have hk7a:=((Keep.refl [f] X1).setCell (p:=⟨f,29,none⟩) (.inl (by simp)) (.int .i64 2));have hfb:w.heap.size≠f:=Nat.ne_of_gt hlt;refine ZB (by rfl) (fun K hK=>?_)
 go_wp2_with fail
 refine hK _ _ (⟨(KA v3 hk7a (by simpa using hfb)).cell,by simpa using hn7a.cell 6⟩) ?_;clear hK K
 try simp only[Act.put,PU]
 refine QC ?_;have c38:(X1.setCell ⟨f,29,none⟩ (.int .i64 2)).cell? ⟨f,38,none⟩=some (.int .i64 1):=by simpa using hn7a.cell 38
 have g38:=hn7a.frozen 38;have hltv2:=hn7a.lt
 go_wp2_with fail
 have u3:=KA v3 hk7 (by simpa using hfb);have hdef1:=(hk7.block D' (Array.getElem?_eq_some_iff.1 hdefv).1 (by simp;omega)).trans hdefv;have hkW1:=hkv.trans hk7 (fun x hx=>.inl hx);clear c29 g29 hltv c38 g38 hltv2 hn7a hk7a v1 v3 hdefv hkv hk7;generalize ((X1.setCell ⟨f,29,none⟩ (.int .i64 2)).setCell ⟨f,38,none⟩ (.int .i64 2))=W2 at *
 gi_wp2
 refine XF (wpIn_wide.2 ?_);have hkd:Keep [] W2 W2.drew:=(Keep.refl [] W2).drew;replace hn7:=hn7.keep0 hkd;replace u3:=KA u3 hkd (by simp);replace hkW1:=hkW1.trans0 hkd;replace hdef1:=hkd.heap_same hdef1;clear hkd;refine ZT (BegS w.heap.size f d g t) 16 [[0,1,2,3,4,5,6,7,8,9,10,11,12,13,14,15]] (BegS.of hn7 u3) ?_;simp only[PI]
 iterate 16 (refine QM ?_ (by rfl) ?_ ?_;rotate_left;(focus(rintro W ⟨hW0,hW1,hW2,hW3,hW4,hW5,hW6,hW7,hW8,hW9⟩;go_simp;try with_reducible rfl));simp only[Act.put,PU])
 refine QC ?_;have hgX:GeomAt W2.drew g B:=hg.keep hkW1 (by simpa using fun e:g=f=>Blk.ne_ hg.blk hf (by decide) e);have hNW:=JAY W2.drew d g t B hgX ⟨0,0,1,0,2⟩ (by simp[PPos.May]);simp only[PPos.cs] at hNW
 go_wp2_with (refine hNW.mono ?_;clear hNW;rintro e w3 ⟨p,Fw,rfl,hw3,hk3⟩)
 have hszX:=hkW1.size;have hDw:∀ x∈Fw,D'<x:=fun x hx=>Nat.lt_of_lt_of_le (Array.getElem?_eq_some_iff.1 hdef1).1 (hw3.ge x hx);replace hn7:=hn7.keep0 hk3;replace u3:=KA u3 hk3 (by simp);replace hdef1:=hk3.heap_same hdef1;have hwge:∀ x∈Fw,w.heap.size≤x:=fun x hx=>Nat.le_trans hszX (hw3.ge x hx);have hkW2:=hkW1.trans0 hk3;clear hk3 hkW1 hgX;generalize W2.drew.heap.size=bw at *;have z0:=u3.cell;have c2:w3.cell? ⟨f,2,none⟩=some (.int .i64 B):=by simpa using hn7.cell 2
 have c3:w3.cell? ⟨f,3,none⟩=some (.int .i64 8):=by simpa using hn7.cell 3
 have c4:w3.cell? ⟨f,4,none⟩=some (.int .i64 24):=by simpa using hn7.cell 4
 have c5:w3.cell? ⟨f,5,none⟩=some (.int .i64 1):=by simpa using hn7.cell 5
 have c6:w3.cell? ⟨f,6,none⟩=some (.int .i64 2):=by simpa using hn7.cell 6
 have hSE:=callsIn_wide (n:=6-1).2 (KAF B 1 2 h1 h2 (by omega) (by omega) w3)
 gi_wp2_with (refine⟨trivial,?_⟩;refine hSE.mono ?_;clear hSE;rintro e w4 ⟨U,rfl,hU,hk4⟩;obtain⟨ua,uc1,rfl,_,_⟩:=QD hU (by omega))
 clear z0 c2 c3 c4 c5 c6;replace hn7:=hn7.keep0 hk4;replace u3:=KA u3 hk4 (by simp);replace hdef1:=hk4.heap_same hdef1;replace hw3:=hw3.keep0 hk4;have hbu:=hkW2.size;replace hkW2:=hkW2.trans0 hk4;clear hk4;generalize w3.heap.size=bu at *;refine XF (wpIn_wide.2 ?_);have hkd:Keep [] w4 w4.drew:=(Keep.refl [] w4).drew;replace hn7:=hn7.keep0 hkd;replace u3:=KA u3 hkd (by simp);replace hkW2:=hkW2.trans0 hkd;replace hdef1:=hkd.heap_same hdef1;replace hw3:=hw3.keep0 hkd;replace hU:=QB hU hkd;clear hkd;refine ZT (BegS w.heap.size f d g t) 16 [[0,1,2,3,4,5,6,7,8,9,10,11,12,13,14,15]] (BegS.of hn7 u3) ?_;simp only[PI]
 iterate 16 (refine QM ?_ (by rfl) ?_ ?_;rotate_left;(focus(rintro W ⟨hW0,hW1,hW2,hW3,hW4,hW5,hW6,hW7,hW8,hW9⟩;go_simp;try with_reducible rfl));simp only[Act.put,PU])
 refine QC ?_;have hSt:=KAc w4.drew tb t g Ft us0 _ (ht.keep hkW2 (fun x hx hm=>by simp at hm;subst hm;exact hft hx)) 0 1 (by omega) rfl
 go_wp2_with (refine hSt.mono ?_;clear hSt;rintro e w' ⟨rfl,rfl⟩)
 gi_wp2
 generalize w4.drew=w5 at *;have hgX:GeomAt w5 g B:=hg.keep hkW2 (by simpa using fun e:g=f=>Blk.ne_ hg.blk hf (by decide) e);have hdX:DiskAt w5 base d F D:=h.keep hkW2 (fun x hx hm=>by simp at hm;subst hm;exact hfF hx);obtain⟨sa,hsa⟩:∃ sa,sa=6+4*pgs B:=⟨_,rfl⟩
 have hSg:∀ X,Keep [] w5 X→Calls Tryz.prog 45 #[.pointer (some ⟨g,0,none⟩),.int .i64 0] X fun e w'=>e=.returned (.int .i64 (sa:Nat))∧Keep [] X w':=fun X hk=>by
  have:=Xm X g B (hgX.keep0 hk) 0 (by omega);rw[hsa];exact this
 have hsn:sa<D.n∧sa≤300:=by have:=(YC h1 h2).2;omega
 have hsw:IntKind.i64.wrap ((sa:Nat):Int)=(sa:Nat):=by rw[IntKind.wrap_i64];omega
 have hkd:Keep [] w5 w5.drew:=(Keep.refl [] w5).drew;have hbg:∀ X,Keep [] w5 X→BegS w.heap.size f d g t X:=fun X hk=>BegS.of (hn7.keep0 hk) (KA u3 hk (by simp));have HSA:=XC hsa;have HN:=XC hn;clear hsa hn hsn;refine XF (wpIn_wide.2 ?_);refine ZR (BegS w.heap.size f d g t) 21 (.held 0 (.held 1 (.held 2 (.held 3 (.held 4 (.held 5 (.held 6 (.held 7 (.held 8 (.held 9 (.held 10 (.held 11 (.held 12 (.held 14 (.held 15 (.held 16 (.held 17 (.held 18 (.two 13 (.held 19 (.loud 20 .nil)) 20 (.loud 13 (.held 19 .nil))))))))))))))))))))) (hbg _ hkd) ?_;simp only[RT.pick,PJ]
 iterate 18 (refine wpR_held ?_ (by rfl) ?_ ?_;rotate_left;(focus(rintro W ⟨hW0,hW1,hW2,hW3,hW4,hW5,hW6,hW7,hW8,hW9⟩;go_simp;try with_reducible rfl));simp only[Act.put,PU])
 refine @QBB (BgP w5) ?XA _ (fun hR=>?_) ?_;rotate_left
 · refine wpR_two ?_ ?_
   · refine wpR_loud (by rfl) (fun K hK=>?_)
     go_wp2_with (refine(hSg _ hkd).mono ?_;rintro e w6 ⟨rfl,hk6⟩)
     have hkE:=hkd.trans0 hk6;refine hK _ _ ((hbg _ hkE)) ?_;clear hK K
     try simp only[Act.put,PU]
     iterate 1 (refine wpR_held ?_ (by rfl) ?_ ?_;rotate_left;(focus(rintro W ⟨hW0,hW1,hW2,hW3,hW4,hW5,hW6,hW7,hW8,hW9⟩;go_simp;try with_reducible rfl));simp only[Act.put,PU])
     refine wpR_loud (by rfl) (fun K hK=>?_);refine elem8B.wp1_make _ _ rfl .i64 .i64 64 rfl rfl (by omega) (by omega) ?_;intro w7 z hz _ hbz hk7;have hP:=BgP.of hkE hz hbz hk7;refine hK _ _ ((hbg _ hP.kp)) ?_;clear hK K
     try simp only[Act.put,PU]
     refine wpR_nil ?_;exact hR w7 z hP
   · refine wpR_loud (by rfl) (fun K hK=>?_)
     refine elem8B.wp1_make _ _ rfl .i64 .i64 64 rfl rfl (by omega) (by omega) ?_;intro w7 z hz _ hbz hk7;have hP:=BgP.of hkd hz hbz hk7;clear hz hbz hk7;refine hK _ _ ((hbg _ hP.kp)) ?_;clear hK K
     try simp only[Act.put,PU]
     refine wpR_loud (by rfl) (fun K hK=>?_)
     go_wp2_with (refine(hSg _ hP.kp).mono ?_;rintro e w6 ⟨rfl,hk6⟩)
     replace hP:=hP.keep hk6;refine hK _ _ ((hbg _ hP.kp)) ?_;clear hK K
     try simp only[Act.put,PU]
     iterate 1 (refine wpR_held ?_ (by rfl) ?_ ?_;rotate_left;(focus(rintro W ⟨hW0,hW1,hW2,hW3,hW4,hW5,hW6,hW7,hW8,hW9⟩;go_simp;try with_reducible rfl));simp only[Act.put,PU])
     refine wpR_nil ?_;exact hR w6 z hP
 rintro V z ⟨hkV,hzo⟩;replace hn7:=hn7.keep0 hkV;replace u3:=KA u3 hkV (by simp);have hWr:=KX V base d F D (hdX.keep0 hkV) hoff hfuse (by omega) sa (by have:=JA HSA;have:=JA HN;have:=(YC h1 h2).2;omega) (some ⟨z,0,none⟩) 64 (List.replicate 64 0) (Rd.of_own hzo) (fun a ha hm=>by cases ha;have h3:=hdX.lt _ hm;have h4:=(own_mem hzo (g:=z) (by simp[Value.ownBlock])).1;simp only at h3;omega) (Nat.le_trans hbase (Nat.le_trans hkW2.size hkV.size));have hwS:=hkW2.size;have hVS:=hkV.size;have hFlt:=h.lt
 have hG0:∀ x,(x∈F∨V.heap.size≤x)→x≠f∧x≠w.heap.size∧x≠D'∧x∉Fw∧x∉Ft∧x≠ua∧x≠g:=fun x hx=>by
  have a1:=hw3.lt;have a2:=own_mem hU (g:=ua) (by simp[Value.ownBlock]);have a3:D'<w5.heap.size:=(Array.getElem?_eq_some_iff.1 hdef1).1;have a4:=ht.lt;have a5:=hg.lt;have a6:=u3.lt;have a7:=hVS;rcases hx with hx | hx
  · have:=hFlt x hx
    exact⟨fun e=>hfF (e ▸ hx),by omega,by omega,fun hm=>by have:=hwge x hm;omega,fun hm=>htF x hm hx,by omega,fun e=>hgF (e ▸ hx)⟩
  · exact⟨by omega,by omega,by omega,fun hm=>by have:=a1 x hm;omega,fun hm=>by have:=a4 x hm;omega,by omega,by omega⟩
 go_wp2_with (refine hWr.mono ?_;clear hWr;rintro e V1 ⟨rfl,F1,hd1,hkd1,hgr1⟩)
 have hkT:Keep (f :: F) w V1:=((hkW2.trans0 hkV).sub (fun x hx=>by simp at hx;simp[hx])).trans hkd1 (fun x hx=>.inl (List.mem_cons_of_mem _ hx));replace hn7:=hn7.keep hkd1 (fun hm=>(hG0 _ (.inl hm)).1 rfl);replace u3:=KA u3 hkd1 (fun hm=>(hG0 _ (.inl hm)).2.1 rfl);replace hdef1:=(hkd1.block D' (Nat.lt_of_lt_of_le (Array.getElem?_eq_some_iff.1 hdef1).1 hVS) (fun hm=>(hG0 _ (.inl hm)).2.2.1 rfl)).trans (hkV.heap_same hdef1);have hw4:=(hw3.keep0 hkV).keep hkd1 (fun x hx hm=>(hG0 _ (.inl hm)).2.2.2.1 hx);replace hU:=XB (QB hU hkV) hkd1 (fun x hx hm=>by simp[Value.ownBlock] at hx;subst hx;exact(hG0 _ (.inl hm)).2.2.2.2.2.1 rfl);have hgY:=(hgX.keep0 hkV).keep hkd1 (fun hm=>(hG0 _ (.inl hm)).2.2.2.2.2.2 rfl);have hV1s:=hkd1.size;clear hSg hsw hbg hzo hdX hgX hw3
 gi_wp2
 refine XF (wpIn_wide.2 ?_);have hkd:Keep [] V1 V1.drew:=(Keep.refl [] V1).drew;replace hn7:=hn7.keep0 hkd;replace u3:=KA u3 hkd (by simp);replace hkT:=hkT.trans0 hkd;replace hdef1:=hkd.heap_same hdef1;replace hw4:=hw4.keep0 hkd;replace hU:=QB hU hkd;replace hgY:=hgY.keep0 hkd;replace hd1:=hd1.keep0 hkd;replace hV1s:V.heap.size≤V1.drew.heap.size:=hV1s;clear hkd;refine ZT (BegS w.heap.size f d g t) 16 [[0,1,2,3,4,5,6,7,8,9,10,11,12,13,15],[14]] (BegS.of hn7 u3) ?_;simp only[PI]
 iterate 15 (refine QM ?_ (by rfl) ?_ ?_;rotate_left;(focus(rintro W ⟨hW0,hW1,hW2,hW3,hW4,hW5,hW6,hW7,hW8,hW9⟩;go_simp;try with_reducible rfl));simp only[Act.put,PU])
 generalize V1.drew=V2 at *;have hSu:=YV V2 g 0 (by omega);refine ZB (by rfl) (fun K hK=>?_)
 go_wp2_with (refine hSu.mono ?_;clear hSu;rintro e w' ⟨rfl,rfl⟩)
 refine hK _ _ ((BegS.of hn7 u3)) ?_;clear hK K
 try simp only[Act.put,PU]
 refine QC ?_;have hWr:=KX V2 base d F1 (D.write sa (List.replicate 64 0)) hd1 hoff hfuse (by show D.acts+1≤_;omega) 0 (by show 0<D.n;have:=JA HN;omega) (some ⟨ua,0,none⟩) uc1 (QAG B 1 2) (Rd.of_own hU) (fun a ha hm=>by cases ha;exact(hG0 _ (hgr1 _ hm)).2.2.2.2.2.1 rfl) (Nat.le_trans hbase (Nat.le_trans hwS (Nat.le_trans hVS hV1s)))
 go_wp2_with (refine hWr.mono ?_;clear hWr;rintro e V3 ⟨rfl,F2,hd2,hkd2,hgr2⟩)
 have hG1:Grow V F F2:=Grow.trans hgr1 hV1s hgr2;have hno1:∀ x∈F1,x∈F∨V.heap.size≤x:=hgr1;have hV2s:=hkd2.size;replace hkT:=hkT.trans hkd2 (fun x hx=>(hno1 x hx).elim (fun h=>.inl (List.mem_cons_of_mem _ h)) (fun h=>.inr (Nat.le_trans hwS (Nat.le_trans hVS h))));replace hn7:=hn7.keep hkd2 (fun hm=>(hG0 _ (hno1 _ hm)).1 rfl);replace u3:=KA u3 hkd2 (fun hm=>(hG0 _ (hno1 _ hm)).2.1 rfl);replace hdef1:=(hkd2.block D' (Array.getElem?_eq_some_iff.1 hdef1).1 (fun hm=>(hG0 _ (hno1 _ hm)).2.2.1 rfl)).trans hdef1;replace hw4:=hw4.keep hkd2 (fun x hx hm=>(hG0 _ (hno1 _ hm)).2.2.2.1 hx);clear hgY hU hd1 hno1 hkd1 hkd2;have z0:=u3.cell;have c0:V3.cell? ⟨f,0,none⟩=some (.pointer (some ⟨d,0,none⟩)):=by simpa using hn7.cell 0
 have hFl:=callsIn_wide (n:=6-1).2 (Qc V3 base d F2 _ hd2 hoff hfuse (by show D.acts+1+1≤_;omega) (Nat.le_trans hbase (Nat.le_trans hwS (Nat.le_trans hVS (Nat.le_trans hV1s hV2s)))))
 gi_wp2_with (refine⟨trivial,?_⟩;refine hFl.mono ?_;clear hFl;rintro e V4 ⟨rfl,F3,hd3,hkd3,hgr3⟩)
 have hno2:∀ x∈F2,x∈F∨V.heap.size≤x:=hG1;have hG2:Grow V F F3:=Grow.trans hG1 (Nat.le_trans hV1s hV2s) hgr3;replace hkT:=hkT.trans hkd3 (fun x hx=>(hno2 x hx).elim (fun h=>.inl (List.mem_cons_of_mem _ h)) (fun h=>.inr (Nat.le_trans hwS (Nat.le_trans hVS h))));replace hn7:=hn7.keep hkd3 (fun hm=>(hG0 _ (hno2 _ hm)).1 rfl);replace hdef1:=(hkd3.block D' (Array.getElem?_eq_some_iff.1 hdef1).1 (fun hm=>(hG0 _ (hno2 _ hm)).2.2.1 rfl)).trans hdef1;replace hw4:=hw4.keep hkd3 (fun x hx hm=>(hG0 _ (hno2 _ hm)).2.2.2.1 hx);clear u3 z0 c0;have hno3:∀ x∈F3,x∈F∨V.heap.size≤x:=hG2;refine⟨by simp,.inl ⟨_,_,rfl,run_takeDeferred hdef1,?_⟩⟩;have hkp:=KAo V4 D' (.deferred none);refine⟨.tuple #[.pointer (some ⟨p,0,none⟩),.int .i64 0],?_,p,Fw,F3,rfl,hn7.keep hkp (by simp;omega),?_,?_,hkT.putObj (by omega) _,fun x hx=>(hno3 x hx).imp id (fun h=>Nat.le_trans hwS (Nat.le_trans hVS h)),fun x hx hm=>(hG0 _ (hno3 _ hm)).2.2.2.1 hx⟩
 · simp[results,Tryz.results222,go_sem]
 · have he:=JA HSA
   subst he;exact hd3.keep hkp (fun x hx hm=>by simp at hm;subst hm;exact(hG0 _ (hno3 _ hx)).2.2.1 rfl)
 · have hw5:=hw4.keep hkp (fun x hx hm=>by simp at hm;have:=hDw x hx;omega)
   exact hw5.rebase hszX
end
section
open Go.RowKit Go.Shelf
def KS (l:List Int) (k:Nat):List Int:=(l.drop (k*15)).take 15
theorem YN (l:List Int) (k:Nat):(KS l k).length=min 15 (l.length-k*15):=by simp[KS]
theorem Js {l:List Int} {k:Nat} {x:Int} (h:x∈KS l k):x∈l:=List.mem_of_mem_drop (List.mem_of_mem_take h)
theorem ZAJ {k:Nat} (h:k<5):IntKind.i64.wrap (((k:Nat):Int)*15)=((k:Nat):Int)*15:=by rw[IntKind.wrap_i64];omega
theorem ZAa {k:Nat} (h:k<5):IntKind.i64.wrap (((k:Nat):Int)+1)=((k:Nat):Int)+1:=by rw[IntKind.wrap_i64];omega
theorem JAB {k:Nat} (h:k<5):IntKind.i64.wrap ((((k:Nat):Int)+1)*15)=(((k:Nat):Int)+1)*15:=by rw[IntKind.wrap_i64];omega
theorem YBC (w:World) (base p:Nat) (F:List Nat) (l:List Int) (ds:List Bool) (h:PagedAt w base p F l ds) (k:Nat) (hk:k<ds.length) :
 Calls Tryz.prog 392 #[.pointer (some ⟨p,0,none⟩),.int .i64 (k:Nat)] w fun e w'=>∃ A c,e=.returned (.slice A (KS l k).length c)∧Rd w A (KS l k).length (VI (KS l k))∧1≤(KS l k).length∧w'=w.drew:=by
 have hT:=Zm w base p F l ds h;obtain⟨L,U,h⟩:=h;obtain⟨g,c,u,uc,rfl,rfl,hgu,hpg,hpu⟩:=h.forms;obtain⟨c0,c1,c2⟩:=h.cells;have hpos:=h.pos;have hfew:=h.few;have hpgs:=h.pages;have hb:15*pgs l.length≤l.length+14∧pgs l.length≤5:=by unfold pgs;omega
 rw[← hpgs] at hb
 have hcap:l.length≤c:=by
  rcases h.rl.2 with⟨he,_⟩ | ⟨g',cap,cur,he,hb,hg,hn,hm,hs,ht⟩
  · cases he
  · cases he;exact hn
 obtain⟨hi,hh1,hh2,hh3,hh4,hh5⟩:∃ hi:Nat,min (((k:Nat)+1)*15:Int) (l.length:Nat)=(hi:Nat)∧hi≤l.length∧k*15<hi∧hi≤k*15+15∧hi-k*15=min 15 (l.length-k*15):=⟨min ((k+1)*15) l.length,by omega,by omega,by omega,by omega,by omega⟩;have hrd:=((Rd.of_own h.rl).cutA (k:=k*15) (cap:=c) (by omega) hcap).take (k:=hi-k*15) (by omega);have hpl:(KS l k).length=hi-k*15:=by rw[YN,hh5]
 have hpe:((VI l).drop (k*15)).take (hi-k*15)=VI (KS l k):=by
  unfold KS VI;rw[List.map_take,List.map_drop,List.take_eq_take_iff];simp;omega
 rw[hpe] at hrd;rw[hpl];have hk5:((k:Nat):Int)<5:=by omega
 have hkI:((k:Nat):Int)<(ds.length:Nat):=by omega
 clear hpe hpl hpgs h hh5;generalize l.length=n at *;generalize ds.length=q at *
 go_enter Tryz.func392,Tryz.ntmps392
 go_wp2_with (refine hT.mono ?_;clear hT;rintro e w' ⟨rfl,rfl⟩)
 refine ZT (fun w'=>w'.cell? ⟨p,0,none⟩=some (.slice (some ⟨g,0,none⟩) n c)∧w'.cell? ⟨p,1,none⟩=some (.int .i64 15)) 23 [[0,1,2,3,4,5,6,7,8,9,10,11,12,13,14,15,16,17,18,19,20,21,22]] ⟨c0,c1⟩ ?_;simp only[PI]
 iterate 23 (refine ZH ?_;simp only[Act.put,PU])
 refine QC ?_
 go_wp2_with (refine VK rfl (.tmp 16) (some (.tmp 22)) (some (.tmp 35)) rfl (.slice (cutA (some ⟨g,0,none⟩) (k*15) c) (hi-k*15) (c-k*15)) ?hrun ?_)
 case hrun=>
  intro W;have:=elemInts.run_lh (some ⟨g,0,none⟩) n c .i64 .i64 (((k:Nat):Int)*15) (hi:Nat) (by omega) (by omega) (by omega) W;rw[show ((hi:Nat):Int).toNat-(((k:Nat):Int)*15).toNat=hi-k*15 by omega,show (((k:Nat):Int)*15).toNat=k*15 by omega] at this;show Sem.run Tryz.prog (Instr.sliceAt 22 (.slice (some ⟨g,0,none⟩) n c) (some (.int .i64 (IntKind.i64.wrap (((k:Nat):Int)*15)))) (some (.int .i64 (min (IntKind.i64.wrap (IntKind.i64.wrap (((k:Nat):Int)+1)*15)) (n:Nat)))) none) W=_;rw[ZAJ (by omega),ZAa (by omega),JAB (by omega),hh1];exact this
 go_ret;exact⟨_,_,rfl,hrd,by omega,rfl⟩
theorem Kh (w:World) (base p:Nat) (F:List Nat) (l:List Int) (ds:List Bool) (h:PagedAt w base p F l ds) (k:Nat) (hk:k<ds.length) :
 Calls Tryz.prog 346 #[.pointer (some ⟨p,0,none⟩),.int .i64 (k:Nat)] w fun e w'=>∃ u,e=.returned u∧w'.ownsRow w.heap.size 3 1 u (KS l k).length (VI (KS l k))∧Keep [] w w':=by
 have hT:=YBC w base p F l ds h k hk;have hl:(KS l k).length≤15:=by rw[YN];omega
 generalize KS l k=l2 at *
 go_enter Tryz.func346,Tryz.ntmps346
 go_wp2_with (first
  | (go_at_call 392;refine hT.mono ?_;clear hT;rintro e w' ⟨A,c,rfl,hrd,hpos,rfl⟩;(have hC:=ZS A l2.length c l2 w.drew hrd.drew (by omega)))
  | (go_at_call 182;refine hC.mono ?_;clear hC;rintro e w' ⟨V,rfl,hV,hkV⟩;(have ho:=YAh hV)))
 go_ret;exact⟨_,rfl,hV,(Keep.refl _ _).drew.trans0 hkV⟩
theorem Yt (w:World) (base m:Nat) (F:List Nat) (I:PImage) (h:ImageAt w base m F I) (over:Bool) (k:Nat) (hk:k<(if over then I.od else I.bd).length) :
 Calls Tryz.prog 294 #[.pointer (some ⟨m,0,none⟩),.bool over,.int .i64 (k:Nat)] w fun e w'=>∃ u,e=.returned u∧w'.ownsRow w.heap.size 3 1 u (KS (if over then I.ol else I.bl) k).length (VI (KS (if over then I.ol else I.bl) k))∧Keep [] w w':=by
 obtain⟨p1,p2,F1,F2,h⟩:=h;have hT:=XM w base m p1 p2 F F1 F2 I h over
 have hP:Calls Tryz.prog 346 #[.pointer (some ⟨if over then p2 else p1,0,none⟩),.int .i64 (k:Nat)] w fun e w'=>∃ u,e=.returned u∧w'.ownsRow w.heap.size 3 1 u (KS (if over then I.ol else I.bl) k).length (VI (KS (if over then I.ol else I.bl) k))∧Keep [] w w':=by
  cases over
  · exact Kh w base p1 F1 I.bl I.bd h.b k hk
  · exact Kh w base p2 F2 I.ol I.od h.o k hk
 generalize KS (if over then I.ol else I.bl) k=l2 at *;generalize (if over then p2 else p1)=pt at *
 go_enter Tryz.func294,Tryz.ntmps294
 go_wp2_with (first
  | (go_at_call 119;refine hT.mono ?_;clear hT;rintro e w' ⟨rfl,rfl⟩)
  | (go_at_call 346;refine hP.mono ?_;clear hP;rintro e w' ⟨V,rfl,hV,hkV⟩;(have ho:=YAh hV)))
 go_ret;exact⟨_,rfl,hV,hkV⟩
end
section
open Go.RowKit Go.Shelf
theorem VBA (w:World) (base p g c:Nat) (U:Value) (F:List Nat) (l:List Int) (ds:List Bool) (h:PagedIs w base p (.slice (some ⟨g,0,none⟩) l.length c) U F l ds) (k:Nat) (hk:k<ds.length) :
 Calls Tryz.prog 392 #[.pointer (some ⟨p,0,none⟩),.int .i64 (k:Nat)] w fun e w'=>e=.returned (.slice (some ⟨g,k*15,none⟩) (KS l k).length (c-k*15))∧w'=w.drew:=by
 have hT:=Zm w base p F l ds ⟨_,_,h⟩;obtain⟨c0,c1,c2⟩:=h.cells;have hpos:=h.pos;have hfew:=h.few;have hpgs:=h.pages;have hb:15*pgs l.length≤l.length+14∧pgs l.length≤5:=by unfold pgs;omega
 rw[← hpgs] at hb
 have hcap:l.length≤c:=by
  rcases h.rl.2 with⟨he,_⟩ | ⟨g',cap,cur,he,hb,hg,hn,hm,hs,ht⟩
  · cases he
  · cases he;exact hn
 obtain⟨hi,hh1,hh2,hh3,hh4,hh5⟩:∃ hi:Nat,min (((k:Nat)+1)*15:Int) (l.length:Nat)=(hi:Nat)∧hi≤l.length∧k*15<hi∧hi≤k*15+15∧hi-k*15=min 15 (l.length-k*15):=⟨min ((k+1)*15) l.length,by omega,by omega,by omega,by omega,by omega⟩;have hpl:(KS l k).length=hi-k*15:=by rw[YN,hh5]
 rw[hpl];have hk5:((k:Nat):Int)<5:=by omega
 have hkI:((k:Nat):Int)<(ds.length:Nat):=by omega
 have hcu:cutA (some ⟨g,0,none⟩) (k*15) c=some ⟨g,k*15,none⟩:=by rw[YAV _ _ _ _ (by omega),Nat.zero_add]
 clear hpl hpgs h hh5;generalize l.length=n at *;generalize ds.length=q at *
 go_enter Tryz.func392,Tryz.ntmps392
 go_wp2_with (refine hT.mono ?_;clear hT;rintro e w' ⟨rfl,rfl⟩)
 refine ZT (fun w'=>w'.cell? ⟨p,0,none⟩=some (.slice (some ⟨g,0,none⟩) n c)∧w'.cell? ⟨p,1,none⟩=some (.int .i64 15)) 23 [[0,1,2,3,4,5,6,7,8,9,10,11,12,13,14,15,16,17,18,19,20,21,22]] ⟨c0,c1⟩ ?_;simp only[PI]
 iterate 23 (refine ZH ?_;simp only[Act.put,PU])
 refine QC ?_
 go_wp2_with (refine VK rfl (.tmp 16) (some (.tmp 22)) (some (.tmp 35)) rfl (.slice (cutA (some ⟨g,0,none⟩) (k*15) c) (hi-k*15) (c-k*15)) ?hrun ?_)
 case hrun=>
  intro W;have:=elemInts.run_lh (some ⟨g,0,none⟩) n c .i64 .i64 (((k:Nat):Int)*15) (hi:Nat) (by omega) (by omega) (by omega) W;rw[show ((hi:Nat):Int).toNat-(((k:Nat):Int)*15).toNat=hi-k*15 by omega,show (((k:Nat):Int)*15).toNat=k*15 by omega] at this;show Sem.run Tryz.prog (Instr.sliceAt 22 (.slice (some ⟨g,0,none⟩) n c) (some (.int .i64 (IntKind.i64.wrap (((k:Nat):Int)*15)))) (some (.int .i64 (min (IntKind.i64.wrap (IntKind.i64.wrap (((k:Nat):Int)+1)*15)) (n:Nat)))) none) W=_;rw[ZAJ (by omega),ZAa (by omega),JAB (by omega),hh1];exact this
 go_ret;exact⟨rfl,rfl⟩
theorem ZAM {w w':World} {base n s g:Nat} {e:TypeId} {v:Value} {xs:List Value} (h:w.ownsRow base e s v n xs) (hv:v.ownBlock=some g) (hs:w'.heap[g]? = w.heap[g]?):w'.ownsRow base e s v n xs:=by
 refine⟨h.1,?_⟩;rcases h.2 with h | ⟨g',cap,cur,rfl,hb,hg,r⟩
 · exact .inl h
 · simp[Value.ownBlock] at hv
   subst hv;exact .inr ⟨g',cap,cur,rfl,hb,hs.trans hg,r⟩
theorem PagedIs.same {w w':World} {base p g u c uc n m:Nat} {F:List Nat} {l:List Int} {ds:List Bool} (h:PagedIs w base p (.slice (some ⟨g,0,none⟩) n c) (.slice (some ⟨u,0,none⟩) m uc) F l ds) (hp:w'.heap[p]? = w.heap[p]?) (hg:w'.heap[g]? = w.heap[g]?) (hu:w'.heap[u]? = w.heap[u]?) :
 PagedIs w' base p (.slice (some ⟨g,0,none⟩) n c) (.slice (some ⟨u,0,none⟩) m uc) F l ds:=
 ⟨hp.trans h.blk,ZAM h.rl (by simp[Value.ownBlock]) hg,ZAM h.rd (by simp[Value.ownBlock]) hu,h.foot,h.base,h.pos,h.few,h.pages⟩
theorem YAE {α:Type} (L ys:List α) (o:Nat) (h:(L.drop o).take ys.length=ys):splice L o ys=L:=by
 have e:L=L.take o++(ys++(L.drop o).drop ys.length):=by
  conv=>lhs;rw[← List.take_append_drop o L,← List.take_append_drop ys.length (L.drop o),h]
 unfold splice
 conv=>rhs;rw[e]
 rw[List.drop_drop]
theorem Xo (w:World) (base p:Nat) (F:List Nat) (l:List Int) (ds:List Bool) (h:PagedAt w base p F l ds) (k:Nat) (hk:k<ds.length) (hd:ds[k]? = some false) (A:Option Addr) (n c2:Nat) (hn:n=(KS l k).length) (ha:Rd w A n (VI (KS l k))) :
 Calls Tryz.prog 348 #[.pointer (some ⟨p,0,none⟩),.int .i64 (k:Nat),.slice A n c2] w fun e w'=>e=.returned (.bool true)∧PagedAt w' base p F l ds∧Keep F w w':=by
 obtain⟨L,U,h⟩:=h;obtain⟨g,c,u,uc,rfl,rfl,hgu,hpg,hpu⟩:=h.forms;have hT:=VBA w base p g c _ F l ds h k hk;obtain⟨c0,c1,c2'⟩:=h.cells;have hpgs:=h.pages;have hfew:=h.few;have hb:15*pgs l.length≤l.length+14:=by unfold pgs;omega
 rw[← hpgs] at hb;have hpl:(KS l k).length=min 15 (l.length-k*15):=YN l k
 obtain⟨cur,hcur,hcl,hct⟩:∃ cur:Array Value,Blk w g 3 cur∧k*15+n≤cur.size∧(cur.toList.drop (k*15)).take n=VI (KS l k):=by
  rcases h.rl.2 with⟨he,_⟩ | ⟨g',cap,cur,he,hb,hg,hn',hm,hs,ht⟩
  · cases he
  · cases he
    refine⟨cur,hg,by omega,?_⟩;have e:cur.toList.take l.length=VI l:=by simpa using ht
    unfold KS VI at *;rw[List.map_take,List.map_drop,← e,List.drop_take,List.take_take]
    congr 1
    omega
 obtain⟨cu,hcu,hck,hcz⟩:∃ cu:Array Value,Blk w u 4 cu∧k<cu.size∧cu[k]? = some (.bool false):=by
  rcases h.rd.2 with⟨he,_⟩ | ⟨g',cap,cur,he,hb,hg,hn',hm,hs,ht⟩
  · cases he
  · cases he
    have e:cur.toList.take ds.length=ds.map .bool:=by simpa using ht
    refine⟨cur,hg,by omega,?_⟩;have e2:(cur.toList.take ds.length)[k]? = some (.bool false):=by rw[e,List.getElem?_map,hd];rfl
    rw[List.getElem?_take_of_lt hk] at e2;simpa using e2
 have hn1:1≤n:=by omega
 have hn15:n≤15:=by omega
 have HN:=XC hn;rw[← hn] at hT;have hlen:(VI (KS l k)).length=n:=by simp[VI,hn]
 have hone:∀ v∈VI (KS l k),v.oneCell'=true:=Qs _;generalize VI (KS l k)=ys at *;clear hn hpl hb hd;have hlk:((k:Nat):Int)<(ds.length:Nat):=by omega
 have hcD:Blk w.drew g 3 cur.toList.toArray:=by simpa using hcur.drew
 go_enter Tryz.func348,Tryz.ntmps348
 go_wp2_with (first
  | (go_at_call 392;refine hT.mono ?_;clear hT;rintro e w' ⟨rfl,rfl⟩)
  | (refine elemInts.wp_copy rfl (.tmp 21) (.tmp 22) rfl (some ⟨g,k*15,none⟩) A n (c-k*15) n c2 rfl rfl g (k*15) cur.toList 3 hcD (fun _=>rfl) (by simpa using hcl) ys ha.drew (fun v hv=>hone v (List.mem_of_mem_take hv)) ?_
     intro w2 hg2 hk2;have q2:w2.cell? ⟨p,2,none⟩=some (.slice (some ⟨u,0,none⟩) ds.length uc):=by simpa using(h.blk.drew.keep hk2 (by simpa using hpg)).cell 2
     have hu2:=hcu.drew.keep hk2 (by simpa using fun e=>hgu e.symm);have q3:w2.cell? ⟨u,k,none⟩=some (.bool false):=(hu2.cell k).trans hcz;have q4:=hu2.frozen k;have hlu:=hu2.lt))
 rw[List.take_of_length_le (by omega),YAE _ _ _ (by rw[hlen];exact hct)] at hg2;go_ret;have hsu:=hu2.set k (.bool false)
 have hcs:cu.setIfInBounds k (.bool false)=cu:=by
  apply Array.ext_getElem?;intro i;rw[Array.getElem?_setIfInBounds]
  split
  · subst_vars;exact hcz.symm
  · rfl
 rw[hcs] at hsu;have hks:Keep [u] w2 (w2.setCell ⟨u,k,none⟩ (.bool false)):=(Keep.refl _ _).setCell (p:=⟨u,k,none⟩) (.inl (by simp)) _;have hP:=(h.blk.drew.keep hk2 (by simpa using hpg)).keep hks (by simpa using hpu);have hG:Blk (w2.setCell ⟨u,k,none⟩ (.bool false)) g 3 cur:=by simpa using hg2.keep hks (by simpa using hgu)
 refine⟨rfl,⟨_,_,h.same (hP.trans h.blk.symm) (hG.trans hcur.symm) (hsu.trans hcu.symm)⟩,?_⟩;have hf:=h.foot;exact((Keep.refl [] w).drew.zero.trans hk2 (fun x hx=>.inl (by rw[hf];simp at hx;simp[hx,Value.ownBlock]))).trans hks (fun x hx=>.inl (by rw[hf];simp at hx;simp[hx,Value.ownBlock]))
def ZAZ (over:Bool):Int:=if over then -1 else 0
theorem Vo (w:World) (m p k n c2:Nat) (over:Bool) (A:Option Addr) (zs:List Int) (hzl:zs.length=n) (hn:1≤n∧n≤15) (hc:n≤c2) (hz:∀ z∈zs,ZAZ over≤z∧z<4096) (Post:World→Prop) (ha:Rd w A n (VI zs))
 (hT:Calls Tryz.prog 119 #[.pointer (some ⟨m,0,none⟩),.bool over] w fun e w'=>e=.returned (.pointer (some ⟨p,0,none⟩))∧w=w')
 (hPg:Calls Tryz.prog 346 #[.pointer (some ⟨p,0,none⟩),.int .i64 (k:Nat)] w fun e w'=>∃ u,e=.returned u∧w'.ownsRow w.heap.size 3 1 u n (VI zs)∧Keep [] w w')
 (hL:∀ W,Keep [] w W→Calls Tryz.prog 348 #[.pointer (some ⟨p,0,none⟩),.int .i64 (k:Nat),.slice A n c2] W fun e w'=>e=.returned (.bool true)∧Post w') :
 Calls Tryz.prog 298 #[.pointer (some ⟨m,0,none⟩),.bool over,.int .i64 (k:Nat),.slice A n c2] w fun e w'=>e=.returned (.bool true)∧Post w':=by
 have hrun:=fun W=>elemInts.run_h A n c2 .i64 (n:Nat) (by omega) (by omega) W;simp only[Int.toNat_natCast] at hrun;obtain⟨hn1,hn2⟩:=hn;have hn0:((n:Nat):Int)≠0:=by omega
 have HZL:=XC hzl;clear hzl
 go_enter Tryz.func298,Tryz.ntmps298
 rcases Bool.eq_false_or_eq_true over with ho | ho
 all_goals
  subst ho;simp only[ZAZ,if_true,if_false,Bool.false_eq_true] at hz
  go_wp2_with (first
   | (go_at_call 119;refine hT.mono ?_;clear hT;rintro e w' ⟨rfl,rfl⟩)
   | (go_at_call 346;refine hPg.mono ?_;clear hPg;rintro e w1 ⟨u,rfl,hu,hk1⟩;obtain⟨UA,uc,rfl,_⟩:=JB hu)
   | (refine VK rfl (.tmp 30) none (some (.tmp 31)) rfl (.slice A n c2) hrun ?_))
  go_loopw [13,34] (fun _ i wr=>∃ j:Nat,j≤n∧i=.int .i64 j∧w1=wr) (fun _ i _=>n-(intOf i).toNat)
  case atStart=>exact⟨0,Nat.zero_le _,rfl,rfl⟩
  case round=>
   obtain⟨j,hj,rfl,rfl⟩:=hrel
   by_cases hlt:j<n
   · have hltI:((j:Nat):Int)<(n:Nat):=by omega
     have hjl:j<zs.length:=by rw[JA HZL];exact hlt
     obtain⟨b,o,q,rfl,hx,hb,hcell⟩:=(ha.keep hk1).at_ hlt;simp only[VI,List.getElem?_map,List.getElem?_eq_getElem hjl,Option.map_some,Option.some.injEq] at hx;subst hx;obtain⟨z1,z2⟩:=hz _ (List.getElem_mem hjl);generalize zs[j]=z at *;replace hcell:w1.cell? ⟨b,o+j,none⟩=some (.int .i64 z):=hcell;have z3:¬ z<_:=Int.not_lt.2 z1;have z4:¬ (4096:Int)≤z:=by omega
     go_wp2_with fail
     go_roundw
     case rel=>exact⟨j+1,by omega,by go_num,trivial⟩
     case measure=>simp[intOf];omega
   · obtain rfl:j=n:=by omega
     have hLd:=hL _ hk1
     go_wp2_with (first
      | (refine VK rfl (.tmp 48) none (some (.tmp 49)) rfl (.slice A j c2) hrun ?_)
      | (go_at_call 348;refine hLd.mono ?_;clear hLd;rintro e w' ⟨rfl,hp⟩))
     go_ret;exact⟨rfl,hp⟩
theorem KAP (w:World) (base m:Nat) (F:List Nat) (I:PImage) (h:ImageAt w base m F I) (over:Bool) (k:Nat) (hk:k<(if over then I.od else I.bd).length) (hd:(if over then I.od else I.bd)[k]? = some false) (A:Option Addr) (n c2:Nat) (hn:n=(KS (if over then I.ol else I.bl) k).length) (hn1:1≤n) (hc:n≤c2) (ha:Rd w A n (VI (KS (if over then I.ol else I.bl) k))) :
 Calls Tryz.prog 298 #[.pointer (some ⟨m,0,none⟩),.bool over,.int .i64 (k:Nat),.slice A n c2] w fun e w'=>e=.returned (.bool true)∧ImageAt w' base m F I∧Keep F w w':=by
 obtain⟨p1,p2,F1,F2,h⟩:=h;have hT:=XM w base m p1 p2 F F1 F2 I h over;have hn15:n≤15:=by rw[hn,YN];omega
 obtain⟨e1,e2,e3⟩:=h.ok;cases over
 · simp only[Bool.false_eq_true,if_false] at *
   refine Vo w m p1 k n c2 false A (KS I.bl k) hn.symm ⟨hn1,hn15⟩ hc (fun z hz=>e2 z (Js hz)) (fun w'=>ImageAt w' base m F I∧Keep F w w') ha hT (by rw[hn];exact Kh w base p1 F1 I.bl I.bd h.b k hk) (fun W hW=>?_);have h':=h.keep0 hW;refine(Xo W base p1 F1 I.bl I.bd h'.b k hk hd A n c2 hn (ha.keep hW)).mono ?_;rintro e w' ⟨rfl,hp,hk2⟩;have hkF:Keep F W w':=hk2.sub (fun x hx=>h.subB x hx);exact⟨rfl,⟨p1,p2,F1,F2,⟨h'.blk.keep hk2 h.m1,hp,h'.o.keep hk2 (fun x hx hm=>h.apart x hm hx),h.apart,h.m1,h.m2,h.foot,h.base,h.ok⟩⟩,hW.zero.trans hkF (fun x hx=>.inl hx)⟩
 · simp only[if_true] at *
   refine Vo w m p2 k n c2 true A (KS I.ol k) hn.symm ⟨hn1,hn15⟩ hc (fun z hz=>e3 z (Js hz)) (fun w'=>ImageAt w' base m F I∧Keep F w w') ha hT (by rw[hn];exact Kh w base p2 F2 I.ol I.od h.o k hk) (fun W hW=>?_);have h':=h.keep0 hW;refine(Xo W base p2 F2 I.ol I.od h'.o k hk hd A n c2 hn (ha.keep hW)).mono ?_;rintro e w' ⟨rfl,hp,hk2⟩;have hkF:Keep F W w':=hk2.sub (fun x hx=>h.subO x hx);exact⟨rfl,⟨p1,p2,F1,F2,⟨h'.blk.keep hk2 h.m2,h'.b.keep hk2 (fun x hx hm=>h.apart x hx hm),hp,h.apart,h.m1,h.m2,h.foot,h.base,h.ok⟩⟩,hW.zero.trans hkF (fun x hx=>.inl hx)⟩
end
section
open Go.RowKit Go.Shelf
theorem JAO (w:World) (g B:Nat) (h:GeomAt w g B) (x:Int) (hx:x<6+4*(pgs B:Nat)) :
 Calls Tryz.prog 19 #[.pointer (some ⟨g,0,none⟩),.int .i64 x] w fun e w'=>e=.returned (.tuple #[.int .i64 0,.int .i64 0,.bool false])∧Keep [] w w':=by
 have hS:=segsG_is w g B h;have hN:=fun W (hk:Keep [] w W)=>SectorsG_is W g B (h.keep0 hk);have hb:=(YC h.pos h.few).2;have hT:=fun W=>YG x ((6+4*pgs B:Nat)) ((198+4*pgs B:Nat)-1) W;rw[decide_eq_false (by omega)] at hT
 go_enter Tryz.func19,Tryz.ntmps19
 go_wp2_with (first
  | (go_at_call 74;refine hS.mono ?_;rintro e w1 ⟨rfl,hk1⟩)
  | (go_at_call 75;refine(hN _ hk1).mono ?_;rintro e w2 ⟨rfl,hk2⟩;replace hk2:=hk1.trans0 hk2)
  | (go_at_call 73;refine(hT _).mono ?_;rintro e w' ⟨rfl,rfl⟩))
 exact bodyPost_ret (v:=.tuple #[.int .i64 0,.int .i64 0,.bool false]) (by simp[results,Tryz.results19,go_sem]) rfl ⟨rfl,hk2⟩
theorem YAp (w:World) (f g B:Nat) (cs:Array Value) (hb:Blk w f 311 cs) (hc:cs[1]? = some (.pointer (some ⟨g,0,none⟩))) (h:GeomAt w g B) (x:Int) (hx:x<1) :
 Calls Tryz.prog 297 #[.pointer (some ⟨f,0,none⟩),.int .i64 x] w fun e w'=>e=.returned (.bool true)∧Keep [] w w':=by
 have hW:=JAO w g B h x (by have:=(YC h.pos h.few).1;omega);have c1:=(hb.cell 1).trans hc
 go_enter Tryz.func297,Tryz.ntmps297
 go_wp2_with (refine hW.mono ?_;clear hW;rintro e w' ⟨rfl,hk⟩)
 go_ret;exact⟨rfl,hk⟩
theorem ZAh (w:World) (b f g B:Nat) (cs:Array Value) (hx:Boxed w b 309 (.pointer (some ⟨f,0,none⟩))) (hb:Blk w f 311 cs) (hc:cs[1]? = some (.pointer (some ⟨g,0,none⟩))) (h:GeomAt w g B) (x:Int) (hx1:x<1) :
 Calls Tryz.prog 296 #[.int .i64 x,.pointer (some ⟨b,0,none⟩)] w fun e w'=>e=.returned (.bool false)∧Keep [] w w':=by
 have hL:=YAp w f g B cs hb hc h x hx1;have c:=hx.cell
 go_enter Tryz.func296,Tryz.ntmps296
 go_wp2_with (refine hL.mono ?_;clear hL;rintro e w' ⟨rfl,hk⟩)
 go_ret;exact⟨rfl,hk⟩
theorem JAf (w:World) (b f g B:Nat) (cs:Array Value) (hx:Boxed w b 309 (.pointer (some ⟨f,0,none⟩))) (hb:Blk w f 311 cs) (hc:cs[1]? = some (.pointer (some ⟨g,0,none⟩))) (h:GeomAt w g B)
 (A:Option Addr) (n c:Nat) (zs:List Int) (ha:Rd w A n (VI zs)) (hz:∀ z∈zs,z<1) (hn:n≤15) :
 Calls Tryz.prog 295 #[.slice A n c,.func (.func 296) #[] #[.pointer (some ⟨b,0,none⟩)]] w fun e w'=>e=.returned (.bool false)∧Keep [] w w':=by
 have hT:Calls Tryz.prog 347 #[.slice A n c,.func (.func 296) #[] #[.pointer (some ⟨b,0,none⟩)]] w fun e w'=>e=.returned (.int .i64 (-1))∧Keep [] w w':=by
  have hl:zs.length=n:=by simpa [VI] using ha.1
  have HL:=XC hl;clear hl
  go_enter Tryz.func347,Tryz.ntmps347
  go_wp2_with fail
  go_loopw [5,8] (fun _ i wr=>∃ k:Nat,k≤n∧i=.int .i64 k∧Keep [] w wr) (fun _ i _=>n-(intOf i).toNat)
  case atStart=>exact⟨0,Nat.zero_le _,rfl,Keep.refl _ _⟩
  case round=>
   obtain⟨k,hk,rfl,hK⟩:=hrel
   by_cases hlt:k<n
   · have hkl:k<zs.length:=by rw[JA HL];exact hlt
     have hltI:((k:Nat):Int)<(n:Nat):=by omega
     obtain⟨ab,o,u,rfl,hxv,hbb,hcc⟩:=(ha.keep hK).at_ hlt;simp only[VI,List.getElem?_map,List.getElem?_eq_getElem hkl,Option.map_some,Option.some.injEq] at hxv;subst hxv;have hT:=ZAh wr b f g B cs (KA hx hK (by simp)) (hb.keep0 hK) hc (h.keep0 hK) zs[k] (hz _ (List.getElem_mem hkl));generalize zs[k]=z at *;replace hcc:wr.cell? ⟨ab,o+k,none⟩=some (.int .i64 z):=hcc
     go_wp2_with (refine hT.mono ?_;rintro e w' ⟨rfl,hk2⟩)
     go_roundw
     case rel=>exact⟨k+1,by omega,by go_num,hK.trans0 hk2⟩
     case measure=>simp[intOf];omega
   · obtain rfl:n=k:=by omega
     go_wp2
     go_ret;exact⟨rfl,hK⟩
 go_enter Tryz.func295,Tryz.ntmps295
 go_wp2_with (refine hT.mono ?_;clear hT;rintro e w' ⟨rfl,hk⟩)
 go_ret;exact⟨rfl,hk⟩
theorem XAR (B k:Nat) (x:Int):KS (List.replicate B x) k=List.replicate (min (B-15*k) 15) x:=by
 unfold KS;rw[List.drop_replicate,List.take_replicate]
 congr 1
 omega
theorem Xy (w:World) (f d g m base mb B:Nat) (F Fm:List Nat) (D:PDisk) (cs:Array Value) (hf:Blk w f 311 cs) (hc0:cs[0]? = some (.pointer (some ⟨d,0,none⟩))) (hc1:cs[1]? = some (.pointer (some ⟨g,0,none⟩))) (hc6:cs[23]? = some (.pointer (some ⟨m,0,none⟩)))
 (h:DiskAt w base d F D) (hoff:D.off=false) (hfl:∀ k,k<D.n→D.faults[k]? = some false) (hn:D.n=198+4*pgs B) (hg:GeomAt w g B) (over:Bool) (x:Int) (hx:x=if over then -1 else 0) (I:PImage) (hI:ImageAt w mb m Fm I)
 (hbl:(if over then I.ol else I.bl)=List.replicate B x) (hbd:(if over then I.od else I.bd)=List.replicate (pgs B) false)
 (hpg:∀ k,k<pgs B→seg 64 D.now (6+2*(k+(if over then pgs B else 0)))=QQ (List.replicate (min (B-15*k) 15) x)) (A:Option Addr) (c:Nat) (hA:Rd w A (pgs B) (QH (List.replicate (pgs B) 0))) (hAm:∀ a,A=some a→a.block∉Fm) (hfm:f∉Fm) (hgm:g∉Fm) (hdm:Apart F Fm) :
 Calls Tryz.prog 220 #[.pointer (some ⟨f,0,none⟩),.bool over,.slice A (pgs B) c] w fun e w'=>e=.returned (.int .i64 0)∧ImageAt w' mb m Fm I∧Keep Fm w w':=by
 have hpb:=YC hg.pos hg.few;have hlen:=hI.lt;have hPg:=fun(k:Nat) (hk:k<pgs B) W (hK:Keep Fm w W)=>Qi W g B (hg.keep hK hgm) over k 0 (by omega) hk;have hRd:=fun(k:Nat) (hk:k<pgs B) W (hK:Keep Fm w W)=>QY W base d F D (h.keep hK hdm) hoff (6+2*(k+(if over then pgs B else 0))+0) (by split <;> omega) (hfl _ (by split <;> omega));have hfd:=fun W (hK:Keep Fm w W)=>(⟨(hf.keep hK hfm).cell 0 |>.trans hc0,(hf.keep hK hfm).cell 1 |>.trans hc1,(hf.keep hK hfm).cell 23 |>.trans hc6⟩:W.cell? ⟨f,0,none⟩=some (.pointer (some ⟨d,0,none⟩))∧W.cell? ⟨f,1,none⟩=some (.pointer (some ⟨g,0,none⟩))∧W.cell? ⟨f,23,none⟩=some (.pointer (some ⟨m,0,none⟩)));have hx1:x<1:=by rw[hx];split <;> omega
 have hx0 : -1≤x:=by rw[hx];split <;> omega
 have hPi:=fun(k:Nat) (hk:k<pgs B) W (hi:ImageAt W mb m Fm I)=>Yt W mb m Fm I hi over k (by rw[hbd];simpa using hk);have hLd:=fun(k:Nat) (hk:k<pgs B) W (hi:ImageAt W mb m Fm I) (A:Option Addr) (n c2:Nat) hn=>KAP W mb m Fm I hi over k (by rw[hbd];simpa using hk) (by rw[hbd,List.getElem?_replicate,if_pos hk]) A n c2 hn;simp only[hbl,XAR] at hPi hLd;clear hx hbl hbd hlen hfl;generalize hov:(if over then pgs B else 0)=ov at *;have hkx:Keep [] w (w.alloc (.cells #[.pointer (some ⟨f,0,none⟩)] 309)):=(Keep.refl _ _).alloc _;have hbx:Boxed (w.alloc (.cells #[.pointer (some ⟨f,0,none⟩)] 309)) w.heap.size 309 (.pointer (some ⟨f,0,none⟩)):=Boxed.new w _ _;have hxm:w.heap.size∉Fm:=fun hm=>by have:=hI.lt _ hm;omega
 obtain⟨P,hP⟩:∃ P,P=pgs B:=⟨_,rfl⟩;rw[← hP] at hA hpb hPg hRd hPi hLd hpg ⊢;have hBk:∀ k,k<P→1≤min (B-15*k) 15:=fun k hk=>by unfold pgs at hP;omega
 have HP:=XC hP;clear hP
 go_enter Tryz.func220,Tryz.ntmps220
 go_wp2_with fail
 generalize w.alloc (.cells #[.pointer (some ⟨f,0,none⟩)] 309)=w1 at *
 go_loopw [7,8,9,10,11,14] (fun _ _ _ _ _ i wr=>∃ k:Nat,k≤P∧i=.int .i64 k∧ImageAt wr mb m Fm I∧Boxed wr w.heap.size 309 (.pointer (some ⟨f,0,none⟩))∧Keep Fm w wr) (fun _ _ _ _ _ i _=>P-(intOf i).toNat)
 case atStart=>exact⟨0,Nat.zero_le _,rfl,hI.keep0 hkx,hbx,hkx.zero⟩
 case round=>
  clear hbx hkx;obtain⟨k,hk,rfl,hi,hb,hK⟩:=hrel
  by_cases hlt:k<P
  · have hltI:((k:Nat):Int)<(P:Nat):=by omega
    obtain⟨ab,ao,au,rfl,hxv,hab,hac⟩:=(hA.keepIf hK (fun a ha hm=>hAm a ha hm)).at_ hlt;simp only[QH,List.map_replicate,List.getElem?_replicate,if_pos hlt,Option.some.injEq] at hxv;subst hxv;replace hac:wr.cell? ⟨ab,ao+k,none⟩=some (.int .i64 0):=hac;have hn1:=hBk k hlt;have hpgk:=hpg k hlt;have hPg1:=hPg k hlt;have hRd1:=hRd k hlt;have hPi1:=hPi k hlt;have hLd1:=hLd k hlt;rw[Nat.add_zero] at hRd1;rw[hpgk] at hRd1;clear hPg hRd hPi hLd hpg hpgk hA hBk;obtain⟨nn,hnn⟩:∃ nn,nn=min (B-15*k) 15:=⟨_,rfl⟩;rw[← hnn] at hn1 hRd1 hPi1 hLd1;have hn15:nn≤15:=by omega
    rw[XAE x hn15] at hRd1;clear hnn;have hiD:ImageAt wr.drew mb m Fm I:=hi.keep0 (Keep.refl [] wr).drew;have hbD:=KA hb (Keep.refl [] wr).drew (by simp);have hKD:=hK.drew;have hcb:=hb.cell
    go_wp2_with fail
    refine ZT (fun W=>W.cell? ⟨w.heap.size,0,none⟩=some (.pointer (some ⟨f,0,none⟩))∧W.cell? ⟨f,0,none⟩=some (.pointer (some ⟨d,0,none⟩))∧W.cell? ⟨f,1,none⟩=some (.pointer (some ⟨g,0,none⟩))) 17 [[0,1,2,3,4,5,6,7,8,9,10],[11],[12,13,14,15,16]] ⟨hbD.cell,(hfd _ hKD).1,(hfd _ hKD).2.1⟩ ?_;simp only[PI]
    iterate 11 (refine ZH ?_;simp only[Act.put,PU])
    refine ZB (by rfl) (fun K hK=>?_)
    go_wp2_with (refine(hPg1 _ hKD).mono ?_;rintro e w2 ⟨rfl,hk2⟩)
    replace hiD:=hiD.keep0 hk2;replace hbD:=KA hbD hk2 (by simp);replace hKD:=hKD.trans0 hk2;clear hk2;refine hK _ _ (⟨hbD.cell,(hfd _ hKD).1,(hfd _ hKD).2.1⟩) ?_;clear hK K
    try simp only[Act.put,PU]
    refine ZB (by rfl) (fun K hK=>?_)
    go_wp2_with (refine(hRd1 _ hKD).mono ?_;rintro e w3 ⟨ub,rfl,hub,hk3⟩;obtain⟨BA,bc,rfl,_⟩:=JB hub)
    replace hiD:=hiD.keep0 hk3;replace hbD:=KA hbD hk3 (by simp);replace hKD:=hKD.trans0 hk3;clear hk3;refine hK _ _ (⟨hbD.cell,(hfd _ hKD).1,(hfd _ hKD).2.1⟩) ?_;clear hK K
    try simp only[Act.put,PU]
    iterate 4 (refine ZH ?_;simp only[Act.put,PU])
    refine QC ?_
    have hDe:=XAp BA bc (Vf nn x) w3 (Rd.of_own hub) (Xu x hn15) (fun z hz=>by
     unfold Vf at hz;rcases List.mem_append.1 hz with hz | hz
     · rw[List.eq_of_mem_replicate hz];omega
     · rw[List.eq_of_mem_replicate hz];omega)
    have hrun:=fun(UA:Option Addr) (uc:Nat) (h:15≤uc) W=>elemInts.run_h UA 15 uc .i64 (nn:Nat) (by omega) (by omega) W;simp only[Int.toNat_natCast] at hrun
    go_wp2_with (first
     | (go_at_call 293
        refine hDe.mono ?_;clear hDe hcb;rintro e w4 ⟨u,rfl,hu,hk4⟩;obtain⟨UA,uc,rfl,huc,_⟩:=JB hu;have hi4:=hiD.keep0 hk4;have hb4:=KA hbD hk4 (by simp);have hK4:=hKD.trans0 hk4;have hcb:=hb4.cell;have hc23:=(hfd _ hK4).2.2
        have hPi2:=hPi1 _ hi4)
     | (go_at_call 294
        refine hPi2.mono ?_;clear hPi2 hcb hc23;rintro e w5 ⟨v,rfl,hv,hk5⟩;obtain⟨VA,vc,rfl,_⟩:=JB hv;have hi5:=hi4.keep0 hk5;have hb5:=KA hb4 hk5 (by simp);have hK5:=hK4.trans0 hk5;have hu5:=QB hu hk5
        have hr5:Rd w5 UA nn (VI (List.replicate nn x)):=by
         have:=(Rd.of_own hu5).take (k:=nn) hn15
         rwa [show (VI (Vf nn x)).take nn=VI (List.replicate nn x) by unfold VI;rw[← List.map_take,QAH]] at this
        have hLi:=JAf w5 w.heap.size f g B cs hb5 (hf.keep hK5 hfm) hc1 (hg.keep hK5 hgm) UA nn uc (List.replicate nn x) hr5 (fun z hz=>by rw[List.eq_of_mem_replicate hz];exact hx1) hn15)
     | (refine VK rfl (.tmp 46) none (some (.tmp 54)) rfl (.slice UA nn uc) (hrun UA uc huc) ?_)
     | (go_at_call 295
        refine hLi.mono ?_;clear hLi;rintro e w6 ⟨rfl,hk6⟩;have hi6:=hi5.keep0 hk6;have hb6:=KA hb5 hk6 (by simp);have hK6:=hK5.trans0 hk6;have hcb:=hb6.cell;have hc23:=(hfd _ hK6).2.2
        have hLd2:=hLd1 _ hi6 UA nn uc (List.length_replicate ..).symm hn1 (by omega) (hr5.keep hk6))
     | (go_at_call 298
        refine hLd2.mono ?_;clear hLd2 hcb hc23;rintro e w7 ⟨rfl,hi7,hk7⟩;have hb7:=KA hb6 hk7 hxm;have hK7:=hK6.trans hk7 (fun y hy=>.inl hy)))
    go_roundw
    case rel=>exact⟨k+1,by omega,by go_num,hi7,hb7,hK7⟩
    case measure=>simp[intOf];omega
  · obtain rfl:k=P:=by omega
    go_wp2_with fail
    go_ret;exact⟨rfl,hi,hK⟩
end
section
open Go.RowKit
theorem Does.gen {B:Nat} {S S':PS} {o:POp} (h:Does B S o S'):S'.st.gen=S.st.gen:=by
 rcases h with⟨_,_,_,_,_,_,_,rfl⟩ | ⟨_,_,_,_,_,_,_,rfl⟩ | ⟨_,_,_,_,_,_,_,_,_,_,_,_,_,_,rfl⟩ <;> rfl
end
end Go.Proofs.YtkonbpfbjiepfaaGreat
