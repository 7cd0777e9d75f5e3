/-
  A part of the proof: lemmas, and contracts of functions; their conditions stand in them.
-/
import Derived.Test.YtmoagodllhdemaaGreatH32
import Derived.Test.YtmoagodllhdemaaGreatH28
import Derived.Test.YtmoagodllhdemaaGreatH22
import Derived.Test.YtmoagodllhdemaaGreatH11
import Derived.Test.YtmoagodllhdemaaGreatH08
import Derived.Test.YtmoagodllhdemaaGreatH10
namespace Go.Proofs.YtmoagodllhdemaaGreat
set_option linter.unusedSimpArgs false
set_option linter.unusedVariables false
set_option maxHeartbeats 4000000
set_option maxRecDepth 100000
section
open Go.RowKit Go.Shelf
theorem KAW (w:World) (base s d:Nat) (F:List Nat) (B:Nat) (S:PS) (h:StoreAt w base s d F B S) (hm:S.st.mode=1) (e:Nat) (he:e≠S.st.epoch+1) (heb:S.st.epoch≤1000000000) :
 Calls Tryz.prog 204 #[.pointer (some ⟨s,0,none⟩),.int .i64 (e:Nat)] w fun r w'=>r = .returned (.int .i64 1)∧w=w':=by
 obtain ⟨g,t,p,m,Fd,Ft,Fw,Fm,L0,L1,h,rfl⟩:=h
 have hQ:=KAc w base s d g t p m Fd Ft Fw Fm L0 L1 B S h hm
 obtain ⟨c0,c1,c2,c3,c4,c5,c6,c7,c8,c9,c10,c11,c12,c13,c14,c15,c16,c17⟩:=VD h.blk
 have heI:¬ ((e:Nat):Int)=(S.st.epoch:Nat)+1:=by omega
 go_enter Tryz.func204,Tryz.ntmps204
 have heB:(((e:Nat):Int) == (S.st.epoch:Nat)+1)=false:=by simpa using heI
 clear heI he
 go_wp2_with (refine hQ.mono ?_;clear hQ;rintro r w' ⟨rfl,rfl⟩)
 go_ret
 exact ⟨rfl,rfl⟩
theorem JAj (w:World) (base s d:Nat) (F:List Nat) (B:Nat) (S:PS) (h:StoreAt w base s d F B S) (k j:Nat) (hg:Good B S k j) (hk:k≤50) (hj:j≤20000) (hm:S.st.mode=1) (e:Nat) (he:e=S.st.epoch+1) :
 Calls Tryz.prog 204 #[.pointer (some ⟨s,0,none⟩),.int .i64 (e:Nat)] w fun r w'=>r = .returned (.int .i64 0)∧∃ F' S',StoreAt w' base s d F' B S'∧Marked B S e S'∧Keep F w w'∧Grow w F F':=by
 obtain ⟨g,t,p,m,Fd,Ft,Fw,Fm,L0,L1,h,rfl⟩:=h
 have hQ:=Xc w base s d g t p m Fd Ft Fw Fm L0 L1 B S h 1 (.inr hm.symm)
 have heb:S.st.epoch≤20000:=by have:=hg.epoch;omega
 have hmay:PItem.May ⟨3,0,0,e⟩ := .inr (.inr (.inl ⟨rfl,rfl,rfl,by simp only;omega,by simp only;omega⟩))
 have hacts:=hg.cap.acts
 have hlsn:=hg.cap.lsn
 have hAd:=JAV w base d g t p Fd Ft Fw B S.D S.us S.lv S.W h.log hg.cap.ok hg.cap.off false (by omega) (by omega) hg.cap.opn ⟨3,0,0,e⟩ hmay (by simp) (hg.room hk (by unfold QX;split <;> omega) false) none 0 [] (by rw [show 64*QX ⟨3,0,0,e⟩=0 by simp [QX,PItem.loaded]];exact Rd.nil w none) (fun x hx=>by cases hx)
 rw [show 64*QX ⟨3,0,0,e⟩=0 by simp [QX,PItem.loaded]] at hAd
 simp only [itc] at hAd
 have hblk:=h.blk
 have hseq:S.st.seq≤20000:=by have:=hg.seq;omega
 have hsn:s∉Fd++(Ft++Fw):=fun hm=>h.aps (by simp only [List.mem_cons,List.mem_append] at hm ⊢;rcases hm with hm | hm | hm <;> simp [hm])
 obtain ⟨c0,c1,c2,c3,c4,c5,c6,c7,c8,c9,c10,c11,c12,c13,c14,c15,c16,c17⟩:=VD hblk
 have heI:((e:Nat):Int)=(S.st.epoch:Nat)+1:=by omega
 have HE:=JC he
 clear he
 go_enter Tryz.func204,Tryz.ntmps204
 go_wp2_with (first
  | (go_at_call 132
     refine hQ.mono ?_
     clear hQ heI
     rintro r w' ⟨rfl,rfl⟩)
  | (go_at_call 256
     refine hAd.mono ?_
     clear hAd c0 c1 c2 c3 c4 c5 c6 c7 c8 c9 c10 c11 c12 c13 c14 c15 c16 c17
     rintro r w1 ⟨a,rfl,Fd1,Fw1,D1,us1,lv1,W1,h1,hA1,hk1,hg1,hgw1⟩
     obtain ⟨hI1,hG1⟩:=h.setLog h1 hk1 hg1 hgw1
     have hc1:=hg.cap.added hk hmay (fun h=>by cases h) hA1
     have hLs:=ZAa w1 base s d g t p m Fd1 Ft Fw1 Fm L0 L1 B _ hI1 hc1.ok (by have:=hc1.acts;simp only;omega) (by have:=hc1.lsn;simp only;omega))
  | (go_at_call 259
     refine hLs.mono ?_
     clear hLs
     rintro r w2 ⟨rfl,Fd2,Fw2,D2,us2,W2,hI2,hE2,hk2,hg2,hgw2⟩
     have hblk2:=hI2.blk
     have f7:=hblk2.frozen 7
     have f8:=hblk2.frozen 8
     have f9:=hblk2.frozen 9
     simp only at hblk2
     obtain ⟨c0,c1,c2,c3,c4,c5,c6,c7,c8,c9,c10,c11,c12,c13,c14,c15,c16,c17⟩:=VD hblk2))
 have hks:Keep [s] w2 (((w2.setCell ⟨s,7,none⟩ (.int .i64 (e:Nat))).setCell ⟨s,8,none⟩ (.int .i64 ((S.st.seq:Nat)+1))).setCell ⟨s,9,none⟩ (.int .i64 ((S.st.seq:Nat)+1))):=
  (((Keep.refl [s] w2).setCell (p:=⟨s,7,none⟩) (.inl (by simp)) _).setCell (p:=⟨s,8,none⟩) (.inl (by simp)) _).setCell (p:=⟨s,9,none⟩) (.inl (by simp)) _
 have hbz:=((hblk2.set 7 (.int .i64 (e:Nat))).set 8 (.int .i64 ((S.st.seq:Nat)+1))).set 9 (.int .i64 ((S.st.seq:Nat)+1))
 have hI3:=hI2.setSt { S.st with epoch:=e,seq:=S.st.seq+1,done:=S.st.seq+1 } (by simpa using hbz) hks
 have hCm:=XAU _ base m Fm S.I hI3.img
 have hgo:=KAg (B:=B) (S:=S) S.I.bl S.I.ol S.I.ol.length hg.brefs
 have hgl:=Jj S.I.bl S.I.ol S.I.ol.length
 have hol:=hg.ol
 have hb64:=hg.b64
 have hbl:=hg.bl
 have hcl:(Zi S.I.bl S.I.ol S.I.ol.length).length=S.I.bl.length:=Jl (by omega) (by omega)
 obtain ⟨gs,hgs⟩:∃ z,z=Xn S.I.bl S.I.ol S.I.ol.length:=⟨_,rfl⟩
 rw [← hgs] at hCm hgo hgl
 have HGO:=JC hgs
 clear hgs
 generalize ((w2.setCell ⟨s,7,none⟩ (.int .i64 (e:Nat))).setCell ⟨s,8,none⟩ (.int .i64 ((S.st.seq:Nat)+1))).setCell ⟨s,9,none⟩ (.int .i64 ((S.st.seq:Nat)+1))=w3 at *
 have hblk3:=hI3.blk
 clear c0 c1 c2 c3 c4 c5 c6 c7 c8 c9 c10 c11 c12 c13 c14 c15 c16 c17
 go_wp2_with (first
  | (go_at_call 260
     refine hCm.mono ?_
     clear hCm
     rintro r w4 ⟨G,bd,od,rfl,hG,hi4,hk4⟩
     obtain ⟨GA,gc,rfl,_⟩:=KB hG))
 have hI4:=hI3.setImg hi4 (by simpa using hcl) hk4
 have hlt4:∀ x∈Ft,x<w3.heap.size:=fun x hx=>hI3.log.tab.lt x hx
 have hLv:=Qi _ base s d g t p m Fd2 Ft Fw2 Fm L0 L1 B _ hI4 0 (.inl rfl) GA gs.length gc gs (Rd.of_own hG) hgo (by omega) (fun x hx hm=>by
  subst hx
  obtain ⟨h1,h2⟩ | ⟨gb,cap,cur,e,h1,_⟩:=hG.2
  · cases h1
  · injection e with e _ _
    injection e with e
    subst e
    have:=hlt4 _ hm
    simp at this;omega)
 go_wp2_with (refine hLv.mono ?_;clear hLv;rintro r w5 ⟨rfl,hI5,hk5⟩)
 go_ret
 have hsub:∀ {l:List Nat} {u v:World},(∀ x∈l,x=s∨x∈Fd∨x∈Ft∨x∈Fw∨x∈Fm)→Keep l u v→Keep (VL s g Fd Ft Fw Fm L0 L1) u v:=fun hl hk=>hk.sub (JAu hl)
 have hGG:=(h.setLog h1 hk1 hg1 hgw1).2
 obtain ⟨_,hG2⟩:=hI1.setLog (hI2.log) hk2 hg2 hgw2
 have K1:=hsub (by intro x hx;simp only [List.mem_append] at hx;rcases hx with h | h | h <;> simp [h]) hk1
 have K2:=K1.trans hk2 (fun x hx=>hGG x (JAu (by intro y hy;simp only [List.mem_append] at hy;rcases hy with h | h | h <;> simp [h]) x hx))
 have K3:=K2.trans (hsub (by intro x hx;simp at hx;simp [hx]) hks) (fun x hx => .inl hx)
 have K4:=K3.trans (hsub (by intro x hx;simp [hx]) hk4) (fun x hx => .inl hx)
 have K5:=K4.trans (hsub (by intro x hx;simp [hx]) hk5) (fun x hx => .inl hx)
 refine ⟨rfl,_,_,⟨g,t,p,m,Fd2,Ft,Fw2,Fm,L0,L1,hI5,rfl⟩,⟨D1,us1,lv1,W1,a,D2,us2,W2,bd,od,hA1,hE2,?_⟩,K5,hGG.trans hk1.size hG2⟩
 rw [← JA HGO]
end
section
open Go.RowKit Go.Shelf
attribute [local go_sem] Oper.semAt_some
def QAR (S:PS):Nat:=(YR S.I.bl S.I.ol S.I.bl.length).length
def VBE (S:PS):List Value:=[.int .i64 S.st.mode,.int .i64 S.st.view,.int .i64 S.st.epoch,.int .i64 S.st.seq,.int .i64 S.st.done,.int .i64 S.st.mount,.int .i64 S.st.gen,.int .i64 (ZE S.us:Nat),.int .i64 (QAR S:Nat),.int .i64 (YG S.I.ol:Nat)]
theorem Ys (bl ol:List Int) (k:Nat):(YR bl ol k).length≤2*k:=by
 induction k with
 | zero=>simp [YR]
 | succ k ih=>
   rw [YR,List.length_append,List.length_append]
   split <;> split <;> simp <;> omega
theorem KI {w:World} {g:Nat} {t:TypeId} {x0 x1 x2 x3 x4 x5 x6 x7 x8 x9:Value} (h:Blk w g t #[x0,x1,x2,x3,x4,x5,x6,x7,x8,x9]) :
 w.cell? ⟨g,0,none⟩=some x0∧w.cell? ⟨g,1,none⟩=some x1∧w.cell? ⟨g,2,none⟩=some x2∧w.cell? ⟨g,3,none⟩=some x3∧w.cell? ⟨g,4,none⟩=some x4∧w.cell? ⟨g,5,none⟩=some x5∧w.cell? ⟨g,6,none⟩=some x6∧w.cell? ⟨g,7,none⟩=some x7∧w.cell? ⟨g,8,none⟩=some x8∧w.cell? ⟨g,9,none⟩=some x9:=
 ⟨by simpa using h.cell 0,by simpa using h.cell 1,by simpa using h.cell 2,by simpa using h.cell 3,by simpa using h.cell 4,by simpa using h.cell 5,by simpa using h.cell 6,by simpa using h.cell 7,by simpa using h.cell 8,by simpa using h.cell 9⟩
theorem QAP (w:World):Calls Tryz.prog 17 #[.pointer none] w fun e w'=>e = .returned (.agg #[.int .i64 0,.int .i64 0,.int .i64 0,.int .i64 0,.int .i64 0,.int .i64 0,.int .i64 0,.int .i64 0,.int .i64 0,.int .i64 0])∧Keep [] w w':=by
 go_enter Tryz.func17,Tryz.ntmps17
 go_wp2
 have hb:=Blk.new w 51 #[.int .i64 0,.int .i64 0,.int .i64 0,.int .i64 0,.int .i64 0,.int .i64 0,.int .i64 0,.int .i64 0,.int .i64 0,.int .i64 0]
 exact bodyPost_ret (v := .agg #[.int .i64 0,.int .i64 0,.int .i64 0,.int .i64 0,.int .i64 0,.int .i64 0,.int .i64 0,.int .i64 0,.int .i64 0,.int .i64 0]) (by simp [results,Tryz.results17,go_sem]) rfl ⟨rfl,(Keep.refl _ _).alloc _⟩
def wrN (n:Nat):Int:=IntKind.i64.wrap (n:Nat)
theorem XAj (n:Nat):IntKind.i64.wrap (wrN n+1)=wrN (n+1):=by
 unfold wrN
 simp only [IntKind.wrap_i64]
 omega
theorem QAd (n:Nat) (h:n≤1000000):wrN n=(n:Nat):=by
 unfold wrN
 rw [IntKind.wrap_i64]
 omega
structure KSta (w:World) (cs:Array Value) (pre:List PRnd) (W:World):Prop where
 cnt:Blk W (w.heap.size+1) 51 (cs.setIfInBounds 8 (.int .i64 (wrN pre.length)))
 res:Blk W w.heap.size 51 #[.int .i64 0,.int .i64 0,.int .i64 0,.int .i64 0,.int .i64 0,.int .i64 0,.int .i64 0,.int .i64 0,.int .i64 0,.int .i64 0]
 keep:Keep [] w W
theorem KSta.kept {w A B:World} {cs:Array Value} {pre:List PRnd} (h:KSta w cs pre A) (hk:Keep [] A B):KSta w cs pre B:=⟨h.cnt.keep0 hk,h.res.keep0 hk,h.keep.trans0 hk⟩
theorem KSta.turned {w W:World} {cs:Array Value} {k:Nat} {pre:List PRnd} {o o':Obj} (h:KSta w cs pre W) (hl:w.heap.size≤k) (hg:W.heap[k]? = some o) (ho:o.isCells=false):KSta w cs pre (W.putObj k o'):=
 ⟨XN o' h.cnt hg ho,XN o' h.res hg ho,h.keep.putObj hl o'⟩
theorem VAL (w:World) (base s d g t p m:Nat) (Ft Fm:List Nat) (L0 L1:Value) (S:PS) (hblk:Blk w s 119 #[.pointer (some ⟨d,0,none⟩),.pointer (some ⟨g,0,none⟩),.pointer (some ⟨t,0,none⟩),.pointer (some ⟨m,0,none⟩),.pointer (some ⟨p,0,none⟩),
 .int .i64 S.st.mode,.int .i64 S.st.view,.int .i64 S.st.epoch,.int .i64 S.st.seq,.int .i64 S.st.done,.int .i64 S.st.mount,.int .i64 S.st.gen,.int .i64 0,.int .i64 0,.int .i64 0,.int .i64 S.slot,L0,L1])
 (htab:TableAt w base t g Ft S.us S.lv) (hI:ImageAt w base m Fm S.I) :
 Calls Tryz.prog 17 #[.pointer (some ⟨s,0,none⟩)] w fun e w'=>e = .returned (.agg (VBE S).toArray)∧Keep [] w w':=by
 have hFr:=fun W (hk:Keep [] w W)=>ZAI W base t g Ft S.us S.lv (htab.keep0 hk)
 have hPe:=fun W (hk:Keep [] w W)=>XAO W base m Fm S.I (hI.keep0 hk)
 unfold VBE
 generalize hfc:ZE S.us=fc at *
 generalize hpc:YG S.I.ol=pc at *
 obtain ⟨D,us,lv,W,I,⟨mode,view,epoch,seq,done,mount,gen⟩,slot,lie0,lie1⟩:=S
 simp only at *
 refine (callsIn_wide (n:=3)).1 ?_
 refine callsIn_of_wp_marks Tryz.func17 rfl trivial ?_ rfl
 simp only [Tryz.ntmps17,List.size_toArray,List.length_cons,List.length_nil,Nat.reduceAdd,Nat.reduceSub,Array.replicate_succ,Array.replicate_zero,List.push_toArray,List.append_toArray,List.nil_append,List.cons_append]
 obtain ⟨w2,hw2⟩:∃ w2,w2=(w.alloc (.cells #[.int .i64 0,.int .i64 0,.int .i64 0,.int .i64 0,.int .i64 0,.int .i64 0,.int .i64 0,.int .i64 0,.int .i64 0,.int .i64 0] 51)).alloc (.cells #[.int .i64 mode,.int .i64 view,.int .i64 epoch,.int .i64 seq,.int .i64 done,.int .i64 mount,.int .i64 gen,.int .i64 0,.int .i64 0,.int .i64 0] 51):=⟨_,rfl⟩
 have k2:Keep [] w w2:=by rw [hw2];exact ((Keep.refl _ _).alloc _).alloc _
 have s2:w2.heap.size=w.heap.size+2:=by rw [hw2];simp
 have b2:Blk w2 w.heap.size 51 #[.int .i64 0,.int .i64 0,.int .i64 0,.int .i64 0,.int .i64 0,.int .i64 0,.int .i64 0,.int .i64 0,.int .i64 0,.int .i64 0]:=by rw [hw2];exact (Blk.new w _ _).keep0 ((Keep.refl _ _).alloc _)
 have b3:Blk w2 (w.heap.size+1) 51 #[.int .i64 mode,.int .i64 view,.int .i64 epoch,.int .i64 seq,.int .i64 done,.int .i64 mount,.int .i64 gen,.int .i64 0,.int .i64 0,.int .i64 0]:=by
  rw [hw2]
  have:=Blk.new (w.alloc (.cells #[.int .i64 0,.int .i64 0,.int .i64 0,.int .i64 0,.int .i64 0,.int .i64 0,.int .i64 0,.int .i64 0,.int .i64 0,.int .i64 0] 51)) 51 #[.int .i64 mode,.int .i64 view,.int .i64 epoch,.int .i64 seq,.int .i64 done,.int .i64 mount,.int .i64 gen,.int .i64 0,.int .i64 0,.int .i64 0]
  rw [show ∀ o,(w.alloc o).heap.size=w.heap.size+1 from fun o=>by simp] at this
  exact this
 obtain ⟨c0,c1,c2,c3,c4,c5,c6,c7,c8,c9,c10,c11,c12,c13,c14,c15,c16,c17⟩:=VD hblk
 have hslt:=hblk.lt
 gi_wp2
 rw [← hw2]
 clear hw2
 have hFr1:=hFr w2.drew k2.drew
 obtain ⟨f7,f9⟩:(∀ W,Keep [] w2 W→W.frozen? ⟨w.heap.size+1,7,none⟩=false)∧(∀ W,Keep [] w2 W→W.frozen? ⟨w.heap.size+1,9,none⟩=false):=⟨fun W hk=>(b3.keep0 hk).frozen 7,fun W hk=>(b3.keep0 hk).frozen 9⟩
 refine KR (wpIn_wide.2 ?_)
 refine KA (fun w'=>w'.cell? ⟨s,2,none⟩=some (.pointer (some ⟨t,0,none⟩))∧w'.cell? ⟨s,3,none⟩=some (.pointer (some ⟨m,0,none⟩))) 11 [(0,false),(1,false),(2,false),(3,false),(5,false),(6,false),(7,false),(8,false),(4,true),(10,false),(9,true)]
  (by kernel_rfl) (by kernel_rfl) (fun _ _ d _ _ h=>by cases d <;> exact h) ⟨(VD (hblk.keep0 k2.drew)).2.2.1,(VD (hblk.keep0 k2.drew)).2.2.2.1⟩ ?_
 simp only [PI]
 iterate 8 (refine XB ?_ (by rfl) ?_ ?_;rotate_left;(focus (rintro W ⟨hW0,hW1⟩;go_simp;try with_reducible rfl));simp only [Act.put,PU])
 refine QC (by rfl) (fun K hK=>?_)
 go_wp2_with (refine hFr1.mono ?_;clear hFr1;rintro e w3 ⟨rfl,hk3⟩)
 have k3:Keep [] w2 w3:=(Keep.refl _ _).drew.trans0 hk3
 have hPe1:=hPe w3 (k2.trans0 k3)
 refine hK _ _ (⟨(VD (hblk.keep0 (k2.trans0 k3))).2.2.1,(VD (hblk.keep0 (k2.trans0 k3))).2.2.2.1⟩) ?_
 clear hK K
 try simp only [Act.put,PU]
 iterate 1 (refine XB ?_ (by rfl) ?_ ?_;rotate_left;(focus (rintro W ⟨hW0,hW1⟩;go_simp;try with_reducible rfl));simp only [Act.put,PU])
 refine QC (by rfl) (fun K hK=>?_)
 go_wp2_with (refine hPe1.mono ?_;clear hPe1;rintro e w4 ⟨rfl,hk4⟩)
 have k4:Keep [] w2 w4:=k3.trans0 hk4
 refine hK _ _ (⟨(VD (hblk.keep0 (k2.trans0 k4))).2.2.1,(VD (hblk.keep0 (k2.trans0 k4))).2.2.2.1⟩) ?_
 clear hK K
 try simp only [Act.put,PU]
 refine YC ?_
 have q7:=f7 w4 k4
 have q9:=f9 w4 k4
 obtain ⟨y0,y1,y2,y3,y4,y5,y6,y7,y8,y9⟩:=KI (b3.keep0 k4)
 go_wp2_with fail
 have hkz:Keep [w.heap.size+1] w4 ((w4.setCell ⟨w.heap.size+1,7,none⟩ (.int .i64 (fc:Nat))).setCell ⟨w.heap.size+1,9,none⟩ (.int .i64 (pc:Nat))):=((Keep.refl _ _).setCell (.inl (by simp)) _).setCell (.inl (by simp)) _
 have b5:=((b3.keep0 k4).set 7 (.int .i64 (fc:Nat))).set 9 (.int .i64 (pc:Nat))
 have b5r:=(b2.keep0 k4).keep hkz (by simp)
 have k5:=(k2.trans0 k4).trans hkz (fun x hx => .inr (by simp at hx;omega))
 generalize (w4.setCell ⟨w.heap.size+1,7,none⟩ (.int .i64 (fc:Nat))).setCell ⟨w.heap.size+1,9,none⟩ (.int .i64 (pc:Nat))=w5 at *
 simp at b5
 have s5:w.heap.size+2≤w5.heap.size:=by have:=b5.lt;omega
 clear q7 q9 y0 y1 y2 y3 y4 y5 y6 y7 y8 y9 k4 hk4 k3 hk3 b3 b2 f7 f9 k2 s2 c0 c1 c2 c3 c4 c5 c6 c7 c8 c9 c10 c11 c12 c13 c14 c15 c16 c17 hFr hPe hkz hfc hpc
 have c3:=(VD (hblk.keep0 k5)).2.2.2.1
 gi_wp2_with (first
  | (refine ⟨trivial,?_⟩;refine (KAx _ _ _ rfl).mono ?_;rintro e w' ⟨rfl,rfl⟩))
 obtain ⟨w6,hw6⟩:∃ w6,w6=w5.alloc (.cells #[.pointer (some ⟨m,0,none⟩)] 99):=⟨_,rfl⟩
 rw [← hw6]
 have k6:Keep [] w5 w6:=by rw [hw6];exact (Keep.refl _ _).alloc _
 have s6:w6.heap.size=w5.heap.size+1:=by rw [hw6];simp
 have bm:Boxed w6 w5.heap.size 99 (.pointer (some ⟨m,0,none⟩)):=by rw [hw6];exact Boxed.new w5 _ _
 have hlt:=hI.lt
 have hseq:=QAb 2 w5.heap.size base m [w.heap.size+1] Fm I w6 (hI.keep0 (k5.trans0 k6)) bm (fun g hg hm=>by have:=hlt g hg;simp at hm;omega) (by simp;omega) (fun g hg=>by simp at hg;omega)
 have h0:KSta w #[.int .i64 mode,.int .i64 view,.int .i64 epoch,.int .i64 seq,.int .i64 done,.int .i64 mount,.int .i64 gen,.int .i64 (fc:Nat),.int .i64 0,.int .i64 (pc:Nat)] [] w6:=⟨b5.keep0 k6,b5r.keep0 k6,k5.trans0 k6⟩
 refine QAF (n:=3) (gf:=138) (lb:=#[.pointer (some ⟨w5.heap.size,0,none⟩)]) rfl (enters_of Tryz.func138 (by kernel_rfl) rfl)
  hseq
  (fun A B C h k=>h.trans k)
  (fun W o o' hg' ho=>KeepR.putObj (by omega) hg' ho)
  (fun _=>rfl) (KSta w #[.int .i64 mode,.int .i64 view,.int .i64 epoch,.int .i64 seq,.int .i64 done,.int .i64 mount,.int .i64 gen,.int .i64 (fc:Nat),.int .i64 0,.int .i64 (pc:Nat)]) (fun s A B h hk=>h.kept hk) (fun s W l o o' h hl hg' ho=>h.turned (by omega) hg' ho)
  (fun pre x W l o o' h hl hg' ho=>trivial) h0
  (fun y=>{ tmps:=#[.pointer (some ⟨s,0,none⟩),undef,.pointer (some ⟨w.heap.size,0,none⟩),.pointer (some ⟨w.heap.size+1,0,none⟩),.pointer (some ⟨s,0,none⟩),.bool false,undef,.pointer (some ⟨s,0,none⟩),.pointer (some ⟨s,0,none⟩),.pointer (some ⟨s,5,none⟩),.agg #[.int .i64 mode,.int .i64 view,.int .i64 epoch,.int .i64 seq,.int .i64 done,.int .i64 mount,.int .i64 gen,.int .i64 0,.int .i64 0,.int .i64 0],.pointer (some ⟨s,0,none⟩),.pointer (some ⟨s,0,none⟩),.pointer (some ⟨s,2,none⟩),.pointer (some ⟨t,0,none⟩),.int .i64 (fc:Nat),.pointer (some ⟨s,0,none⟩),.pointer (some ⟨s,0,none⟩),.pointer (some ⟨s,3,none⟩),.pointer (some ⟨m,0,none⟩),.int .i64 (pc:Nat),.pointer (some ⟨w.heap.size+1,7,none⟩),.pointer (some ⟨w.heap.size+1,9,none⟩),.pointer (some ⟨s,0,none⟩),.pointer (some ⟨s,0,none⟩),.pointer (some ⟨s,3,none⟩),.pointer (some ⟨m,0,none⟩),.func (.func 138) #[] #[.pointer (some ⟨w5.heap.size,0,none⟩)],.int .i64 (y.1:Nat),.int .i64 y.2,undef,undef,undef,undef,undef],defers:=[] }) ?assign ?body ?done
 case assign=>
  rintro l ⟨k,z⟩ W K hK
  dsimp only [QT] at hK ⊢
  gi_wp2
  simpa using hK
 case body=>
  rintro l pre ⟨k,z⟩ W hI' -
  dsimp only
  obtain ⟨q,hq⟩:∃ q,q=wrN pre.length:=⟨_,rfl⟩
  have hw:=XAj pre.length
  obtain ⟨r,hr⟩:∃ r,r=wrN (pre.length+1):=⟨_,rfl⟩
  rw [← hq,← hr] at hw
  have hbx:=hI'.cnt
  rw [← hq] at hbx
  have hc8:W.cell? ⟨w.heap.size+1,8,none⟩=some (.int .i64 q):=by simpa using hbx.cell 8
  have hf8:=hbx.frozen 8
  have hltB:=hbx.lt
  have HI:=JC hI'
  have HR:=JC hr
  clear h0 bm k6 hseq hI' hq hr hw6
  gi_wp2
  have hI':=JA HI
  have hk3:Keep [w.heap.size+1] W (W.setCell ⟨w.heap.size+1,8,none⟩ (.int .i64 r)):=(Keep.refl _ _).setCell (p:=⟨w.heap.size+1,8,none⟩) (.inl (by simp)) _
  have hfc:KeepsFrom w6.heap.size W (W.setCell ⟨w.heap.size+1,8,none⟩ (.int .i64 r)):=hk3.fromCells (fun g hg o ho=>by
   rw [List.mem_singleton.1 hg] at ho
   rw [show W.heap[_]? = _ from hbx] at ho;cases ho;rfl) _
  have hfc2:KeepsFrom (w6.heap.size+2) W (W.setCell ⟨w.heap.size+1,8,none⟩ (.int .i64 r)):=hk3.fromCells (fun g hg o ho=>by
   rw [List.mem_singleton.1 hg] at ho
   rw [show W.heap[_]? = _ from hbx] at ho;cases ho;rfl) _
  refine ⟨hfc,⟨KeepC.ofKeep hk3 (fun x hx=>hx),hfc2⟩,⟨?_,hI'.res.keep hk3 (by simp),hI'.keep.trans hk3 (fun x hx => .inr (by simp at hx;omega))⟩⟩
  have:=hbx.set 8 (.int .i64 r)
  rw [List.length_append,List.length_singleton,← JA HR]
  simpa using this
 case done=>
  intro D' xs W hD' hS hI' hdef
  have hbx:=hI'.cnt
  rw [hS,QAd _ (by have:=Ys I.bl I.ol I.bl.length;obtain ⟨p1,p2,F1,F2,hi⟩:=hI;obtain ⟨_,_,hb⟩:=hi.b;have:=hb.few;omega)] at hbx
  obtain ⟨q,hq⟩:∃ q,q=(YR I.bl I.ol I.bl.length).length:=⟨_,rfl⟩
  rw [← hq] at hbx
  have HQ:=JC hq
  clear hq
  obtain ⟨y0,y1,y2,y3,y4,y5,y6,y7,y8,y9⟩:=KI (by simpa using hbx)
  have hbr:=hI'.res
  obtain ⟨z0,z1,z2,z3,z4,z5,z6,z7,z8,z9⟩:=KI hbr
  have q0:=hbr.frozen 0
  have q1:=hbr.frozen 1
  have q2:=hbr.frozen 2
  have q3:=hbr.frozen 3
  have q4:=hbr.frozen 4
  have q5:=hbr.frozen 5
  have q6:=hbr.frozen 6
  have q7:=hbr.frozen 7
  have q8:=hbr.frozen 8
  have q9:=hbr.frozen 9
  have HI:=JC hI'
  clear h0 bm k6 hseq hI' hw6
  gi_wp2
  have hI':=JA HI
  have hz:=((((((((((hbr.set 0 (.int .i64 mode)).set 1 (.int .i64 view)).set 2 (.int .i64 epoch)).set 3 (.int .i64 seq)).set 4 (.int .i64 done)).set 5 (.int .i64 mount)).set 6 (.int .i64 gen)).set 7 (.int .i64 (fc:Nat))).set 8 (.int .i64 (q:Nat))).set 9 (.int .i64 (pc:Nat)))
  have hKs:=(((((((((((Keep.refl [w.heap.size] W).setCell (p:=⟨w.heap.size,0,none⟩) (.inl (by simp)) (.int .i64 mode)).setCell (p:=⟨w.heap.size,1,none⟩) (.inl (by simp)) (.int .i64 view)).setCell (p:=⟨w.heap.size,2,none⟩) (.inl (by simp)) (.int .i64 epoch)).setCell (p:=⟨w.heap.size,3,none⟩) (.inl (by simp)) (.int .i64 seq)).setCell (p:=⟨w.heap.size,4,none⟩) (.inl (by simp)) (.int .i64 done)).setCell (p:=⟨w.heap.size,5,none⟩) (.inl (by simp)) (.int .i64 mount)).setCell (p:=⟨w.heap.size,6,none⟩) (.inl (by simp)) (.int .i64 gen)).setCell (p:=⟨w.heap.size,7,none⟩) (.inl (by simp)) (.int .i64 (fc:Nat))).setCell (p:=⟨w.heap.size,8,none⟩) (.inl (by simp)) (.int .i64 (q:Nat))).setCell (p:=⟨w.heap.size,9,none⟩) (.inl (by simp)) (.int .i64 (pc:Nat)))
  simp only [List.setIfInBounds_toArray,List.set_cons_zero,List.set_cons_succ] at hz
  have hdef2:((((((((((W.setCell ⟨w.heap.size,0,none⟩ (.int .i64 mode)).setCell ⟨w.heap.size,1,none⟩ (.int .i64 view)).setCell ⟨w.heap.size,2,none⟩ (.int .i64 epoch)).setCell ⟨w.heap.size,3,none⟩ (.int .i64 seq)).setCell ⟨w.heap.size,4,none⟩ (.int .i64 done)).setCell ⟨w.heap.size,5,none⟩ (.int .i64 mount)).setCell ⟨w.heap.size,6,none⟩ (.int .i64 gen)).setCell ⟨w.heap.size,7,none⟩ (.int .i64 (fc:Nat))).setCell ⟨w.heap.size,8,none⟩ (.int .i64 (q:Nat))).setCell ⟨w.heap.size,9,none⟩ (.int .i64 (pc:Nat))).heap[D']? = some (.deferred (some [])):=(hKs.block D' (Array.getElem?_eq_some_iff.1 hdef).1 (by simp;omega)).trans hdef
  have hzz:=XN (.deferred none) hz hdef2 rfl
  obtain ⟨e0,e1,e2,e3,e4,e5,e6,e7,e8,e9⟩:=KI hzz
  have hkw:=(hI'.keep.trans hKs (fun x hx => .inr (by simp at hx;omega))).putObj (g:=D') (by omega) (.deferred none)
  refine ⟨by simp,.inl ⟨_,_,rfl,run_takeDeferred hdef2,?_⟩⟩
  refine ⟨.agg #[.int .i64 mode,.int .i64 view,.int .i64 epoch,.int .i64 seq,.int .i64 done,.int .i64 mount,.int .i64 gen,.int .i64 (fc:Nat),.int .i64 (q:Nat),.int .i64 (pc:Nat)],?_,by rw [JA HQ];rfl,hkw⟩
  simp [results,Tryz.results17,go_sem,e0,e1,e2,e3,e4,e5,e6,e7,e8,e9]
theorem VAN (w:World) (base s d g t p m:Nat) (Fd Ft Fw Fm:List Nat) (L0 L1:Value) (B:Nat) (S:PS) (h:StoreIs w base s d g t p m Fd Ft Fw Fm L0 L1 B S) :
 Calls Tryz.prog 17 #[.pointer (some ⟨s,0,none⟩)] w fun e w'=>e = .returned (.agg (VBE S).toArray)∧Keep [] w w':=
 VAL w base s d g t p m Ft Fm L0 L1 S h.blk h.log.tab h.img
end
section
open Go.RowKit
def VT (B:Nat) (o:POp):Prop:=
 (o.k=1∧0≤o.b∧o.b<B∧o.d.length=64)∨(o.k=2∧0≤o.b∧1≤o.c∧o.b+o.c≤B)∨(o.k=3∧1≤o.e∧o.e≤2147483647)
def Does (B:Nat) (S:PS) (o:POp) (S':PS):Prop:=
 (o.k=1∧Wrote B S o.b.toNat o.d S')∨(o.k=2∧Trimmed B S o.b.toNat o.c.toNat S')∨(o.k=3∧o.e=S.st.epoch+1∧Marked B S o.e.toNat S')
theorem Good.mono {B:Nat} {S:PS} {k k' j j':Nat} (h:Good B S k j) (hk:k≤k') (hj:j≤j'):Good B S k' j':=
 ⟨h.cap.mono hk hj,h.now,h.many,h.flt,h.flen,h.b1,h.b64,h.bl,h.ol,h.brefs,h.orefs,Nat.le_trans h.seq hj,Nat.le_trans h.epoch hj,h.done⟩
def Xj (st:PSt) (o:POp):PSt:=if o.k=3 then { st with epoch:=st.epoch+1,seq:=st.seq+1,done:=st.seq+1 } else { st with seq:=st.seq+1 }
theorem Does.good {B:Nat} {S S':PS} {o:POp} {k j:Nat} (h:Does B S o S') (ho:VT B o) (hg:Good B S k j) (hk:k≤50) (hj:j≤100000):Good B S' (k+1) (j+2)∧S'.st=Xj S.st o:=by
 rcases h with ⟨h1,h2⟩ | ⟨h1,h2⟩ | ⟨h1,h2,h3⟩
 · rcases ho with ⟨_,o1,o2,o3⟩ | ⟨o0,_⟩ | ⟨o0,_⟩
   · obtain ⟨g1,_,_,g4⟩:=h2.good hg hk (by omega) o3
     exact ⟨g1.mono (Nat.le_refl _) (by omega),by rw [g4,Xj,if_neg (by omega)]⟩
   · omega
   · omega
 · rcases ho with ⟨o0,_⟩ | ⟨_,o1,o2,o3⟩ | ⟨o0,_⟩
   · omega
   · obtain ⟨g1,_,_,g4⟩:=h2.good hg hk (by omega) (by omega)
     exact ⟨g1.mono (Nat.le_refl _) (by omega),by rw [g4,Xj,if_neg (by omega)]⟩
   · omega
 · have he:=hg.epoch
   obtain ⟨g1,_,_,g4⟩:=h3.good hg hk (by omega) hj
   have e:o.e.toNat=S.st.epoch+1:=by omega
   exact ⟨g1.mono (Nat.le_refl _) (by omega),by rw [g4,Xj,if_pos h1,e]⟩
structure RS where
 S:PS
 next:Nat
 sl:List PSlot
def RS.cur (R:RS):PSlot:=R.sl.getD (R.next % R.sl.length) PSlot.none_
def RS.cut (R:RS):List PSlot:=R.sl.set (R.next % R.sl.length) PSlot.none_
inductive Ran (B:Nat):RS→RS→Nat→Prop
 | stop {R:RS}:R.cur.is=false→Ran B R R 0
 | bad {R:RS}:R.cur.is=true→R.cur.o.k=3→R.cur.o.e≠R.S.st.epoch+1→Ran B R ⟨R.S,R.next,R.cut⟩ 1
 | step {R R':RS} {S':PS} {e:Nat}:R.cur.is=true→Does B R.S R.cur.o S'→Ran B ⟨S',R.next+1,R.cut⟩ R' e→Ran B R R' e
def JF (sl:List PSlot):Nat:=sl.countP (·.is)
theorem XAB {sl:List PSlot} {i:Nat} (hi:i<sl.length) (h:sl[i].is=true):JF (sl.set i PSlot.none_)+1=JF sl:=by
 unfold JF
 have:=List.countP_set (p:=(·.is)) (l:=sl) (i:=i) (a:=PSlot.none_) hi
 have hpos:1≤sl.countP (·.is):=List.countP_pos_iff.2 ⟨sl[i],List.getElem_mem _,h⟩
 rw [this,if_pos h]
 simp [PSlot.none_]
 omega
theorem VAM (sl:List PSlot):JF sl≤sl.length:=List.countP_le_length
def XD (m:Nat):List PSlot:=List.replicate m PSlot.none_
theorem Jq {m i:Nat}:(XD m).set i PSlot.none_=XD m:=by simp [XD]
theorem ZAU (S:PS) (n m:Nat):(⟨S,n,XD m⟩:RS).cur=PSlot.none_:=by
 unfold RS.cur XD
 simp only [List.getD_eq_getElem?_getD,List.getElem?_replicate]
 split <;> rfl
theorem ZAi {B:Nat} {S:PS} {n m e:Nat} {R':RS} (h:Ran B ⟨S,n,XD m⟩ R' e):R'=⟨S,n,XD m⟩∧e=0:=by
 have hc:=ZAU S n m
 cases h with
 | stop _=>exact ⟨rfl,rfl⟩
 | bad h _ _=>rw [hc] at h;cases h
 | step h _ _=>rw [hc] at h;cases h
theorem Zv {B:Nat} {S:PS} {n m e:Nat} {q:PSlot} {R':RS} (hm:1≤m) (hq:q.is=true) (h:Ran B ⟨S,n,(XD m).set (n % m) q⟩ R' e) :
 (q.o.k=3∧q.o.e≠S.st.epoch+1∧e=1∧R'=⟨S,n,XD m⟩)∨∃ S',Does B S q.o S'∧e=0∧R'=⟨S',n+1,XD m⟩:=by
 have hl:((XD m).set (n % m) q).length=m:=by simp [XD]
 have hlt:n % m<m:=Nat.mod_lt _ hm
 have hc:(⟨S,n,(XD m).set (n % m) q⟩:RS).cur=q:=by
  unfold RS.cur
  simp only
  rw [hl,List.getD_eq_getElem?_getD,List.getElem?_set_self (by simpa [XD] using hlt)]
  rfl
 have hx:(⟨S,n,(XD m).set (n % m) q⟩:RS).cut=XD m:=by
  unfold RS.cut
  simp only
  rw [hl,List.set_set]
  exact Jq
 cases h with
 | stop h=>rw [hc,hq] at h;cases h
 | bad _ h2 h3=>rw [hc] at h2 h3;rw [hx];exact .inl ⟨h2,h3,rfl,rfl⟩
 | step _ h2 h3=>
   rw [hc] at h2
   rw [hx] at h3
   obtain ⟨e1,e2⟩:=ZAi h3
   exact .inr ⟨_,h2,e2,e1⟩
theorem YAu {B:Nat} {S:PS} {n m e:Nat} {q p:PSlot} {R':RS} (hm:2≤m) (hq:q.is=true) (hp:p.is=true) (h:Ran B ⟨S,n,((XD m).set ((n+1) % m) p).set (n % m) q⟩ R' e) :
 (q.o.k=3∧q.o.e≠S.st.epoch+1)∨∃ S',Does B S q.o S'∧((p.o.k=3∧p.o.e≠S'.st.epoch+1∧e=1∧R'=⟨S',n+1,XD m⟩)∨∃ S2,Does B S' p.o S2∧e=0∧R'=⟨S2,n+1+1,XD m⟩):=by
 have hl:(((XD m).set ((n+1) % m) p).set (n % m) q).length=m:=by simp [XD]
 have hlt:n % m<m:=Nat.mod_lt _ (by omega)
 have hne:(n+1) % m≠n % m:=by
  intro he
  have h1:=Nat.div_add_mod (n+1) m
  have h2:=Nat.div_add_mod n m
  have h3:m*((n+1) / m)=m*(n / m)+1:=by omega
  have h4:m∣1:=(Nat.dvd_add_right (Nat.dvd_mul_right m (n / m))).1 (h3 ▸ Nat.dvd_mul_right m ((n+1) / m))
  have:=Nat.le_of_dvd (by omega) h4
  omega
 have hc:(⟨S,n,((XD m).set ((n+1) % m) p).set (n % m) q⟩:RS).cur=q:=by
  unfold RS.cur
  simp only
  rw [hl,List.getD_eq_getElem?_getD,List.getElem?_set_self (by simpa [XD] using hlt)]
  rfl
 have hx:(⟨S,n,((XD m).set ((n+1) % m) p).set (n % m) q⟩:RS).cut=(XD m).set ((n+1) % m) p:=by
  unfold RS.cut
  simp only
  rw [hl,List.set_set,List.set_comm _ _ hne,Jq]
 cases h with
 | stop h=>rw [hc,hq] at h;cases h
 | bad _ h2 h3=>rw [hc] at h2 h3;exact .inl ⟨h2,h3⟩
 | step _ h2 h3=>
   rw [hc] at h2
   rw [hx] at h3
   exact .inr ⟨_,h2,Zv (by omega) hp h3⟩
theorem YAm {B:Nat} {S:PS} {n m e:Nat} {p:PSlot} {R':RS} (hm:2≤m) (h:Ran B ⟨S,n,(XD m).set ((n+1) % m) p⟩ R' e):R'=⟨S,n,(XD m).set ((n+1) % m) p⟩∧e=0:=by
 have hl:((XD m).set ((n+1) % m) p).length=m:=by simp [XD]
 have hne:(n+1) % m≠n % m:=by
  intro he
  have h1:=Nat.div_add_mod (n+1) m
  have h2:=Nat.div_add_mod n m
  have h3:m*((n+1) / m)=m*(n / m)+1:=by omega
  have h4:m∣1:=(Nat.dvd_add_right (Nat.dvd_mul_right m (n / m))).1 (h3 ▸ Nat.dvd_mul_right m ((n+1) / m))
  have:=Nat.le_of_dvd (by omega) h4
  omega
 have hc:(⟨S,n,(XD m).set ((n+1) % m) p⟩:RS).cur=PSlot.none_:=by
  unfold RS.cur
  simp only
  rw [hl,List.getD_eq_getElem?_getD,List.getElem?_set_ne hne]
  simp only [XD,List.getElem?_replicate]
  split <;> rfl
 cases h with
 | stop _=>exact ⟨rfl,rfl⟩
 | bad h _ _=>rw [hc] at h;cases h
 | step h _ _=>rw [hc] at h;cases h
end
section
open Go.RowKit
section
variable (w:World) (base x:Nat) (L:Value) (F:List Nat) (next:Nat) (sl:List PSlot) (h:WinIs w base x L F next sl)
include h
theorem noneW_is:Calls Tryz.prog 116 #[.pointer (some ⟨x,0,none⟩)] w fun e w'=>e = .returned (.bool false)∧w=w':=by
 obtain ⟨g,c,rfl,hc⟩:=h.form
 obtain ⟨c0,c1⟩:=h.cells
 have hp:=h.pos
 have hn:((sl.length:Nat):Int)≠0:=by omega
 have hnb:(((sl.length:Nat):Int) == 0)=false:=by simpa using hn
 generalize sl.length=m at *
 clear h
 go_enter Tryz.func116,Tryz.ntmps116
 go_wp2
 go_ret
 exact ⟨rfl,rfl⟩
theorem NextW_is:Calls Tryz.prog 74 #[.pointer (some ⟨x,0,none⟩)] w fun e w'=>e = .returned (.int .i64 (next:Nat))∧w=w':=by
 obtain ⟨c0,c1⟩:=h.cells
 clear h
 go_enter Tryz.func74,Tryz.ntmps74
 go_wp2
 go_ret
 exact ⟨rfl,rfl⟩
theorem QAK (g c:Nat) (hL:L = .slice (some ⟨g,0,none⟩) sl.length c) (n:Nat) (hn:n≤4000000000) :
 Calls Tryz.prog 117 #[.pointer (some ⟨x,0,none⟩),.int .i64 (n:Nat)] w fun e w'=>e = .returned (.pointer (some ⟨g,n % sl.length*6,none⟩))∧Keep [] w w':=by
 subst hL
 obtain ⟨c0,c1⟩:=h.cells
 have hp:=h.pos
 have hf:=h.few
 have hlt:n % sl.length<sl.length:=Nat.mod_lt _ hp
 generalize sl.length=m at *
 clear h
 obtain ⟨i,hi⟩:∃ i,i=n % m:=⟨_,rfl⟩
 have hw:IntKind.i64.wrap ((n:Int).tmod (m:Nat))=(i:Nat):=by
  rw [Int.tmod_eq_emod_of_nonneg (by omega),IntKind.wrap_i64,hi]
  have:((n:Int) % (m:Nat))=((n % m:Nat):Int):=by simp
  omega
 have hw2:(n:Int).tmod (m:Nat)=(i:Nat):=by
  rw [Int.tmod_eq_emod_of_nonneg (by omega),hi];simp
 rw [← hi] at hlt ⊢
 have hltI:((i:Nat):Int)<(m:Nat):=by omega
 have hm0:m≠0:=by omega
 clear hi
 go_enter Tryz.func117,Tryz.ntmps117
 go_wp2_with fail
 refine KA (fun w'=>w'.cell? ⟨x,0,none⟩=some (.slice (some ⟨g,0,none⟩) m c)) 11 [(0,false),(1,false),(2,false),(3,false),(4,false),(5,false),(6,false),(7,false),(8,false),(9,false),(10,false)]
  (by kernel_rfl) (by kernel_rfl) (fun _ _ d _ _ h=>by cases d <;> exact h) c0 ?_
 simp only [PI]
 iterate 11 (refine XB ?_ (by rfl) ?_ ?_;rotate_left;(focus (intro W hW;go_simp;try with_reducible rfl));simp only [Act.put,PU])
 refine YC ?_
 go_wp2_with fail
 go_ret
 exact ⟨by simp,(Keep.refl _ _).drew⟩
theorem WinIs.slot (g c:Nat) (hL:L = .slice (some ⟨g,0,none⟩) sl.length c) (i:Nat) (hi:i<sl.length) :
 w.cell? ⟨g,i*6,none⟩=some (.int .i64 sl[i].o.k)∧w.cell? ⟨g,i*6+1,none⟩=some (.int .i64 sl[i].o.b)∧w.cell? ⟨g,i*6+2,none⟩=some (.int .i64 sl[i].o.c)∧w.cell? ⟨g,i*6+3,none⟩=some (.int .i64 sl[i].o.e)∧w.cell? ⟨g,i*6+4,none⟩=some sl[i].v∧w.cell? ⟨g,i*6+5,none⟩=some (.bool sl[i].is):=by
 subst hL
 have hr:=h.row
 refine ⟨?_,?_,?_,?_,?_,?_⟩
 · exact VI hr (by rw [show i*6=i*6+0 from rfl,VJ QG sl i 0 hi (by omega)];rfl)
 · exact VI hr (by rw [VJ QG sl i 1 hi (by omega)];rfl)
 · exact VI hr (by rw [VJ QG sl i 2 hi (by omega)];rfl)
 · exact VI hr (by rw [VJ QG sl i 3 hi (by omega)];rfl)
 · exact VI hr (by rw [VJ QG sl i 4 hi (by omega)];rfl)
 · exact VI hr (by rw [VJ QG sl i 5 hi (by omega)];rfl)
theorem PeekW_is:Calls Tryz.prog 118 #[.pointer (some ⟨x,0,none⟩)] w fun e w'=>∃ q,sl.getD (next % sl.length) PSlot.none_=q∧e = .returned (.tuple #[.agg #[.int .i64 q.o.k,.int .i64 q.o.b,.int .i64 q.o.c,.int .i64 q.o.e,q.v],.bool q.is])∧(∃ A c,q.v = .slice A q.o.d.length c)∧Keep [] w w':=by
 obtain ⟨g,c,hL,hc⟩:=h.form
 have hN:=fun W (hk:Keep [] w W)=>noneW_is W base x L F next sl (h.keep0 hk)
 have hA:=fun W (hk:Keep [] w W)=>QAK W base x L F next sl (h.keep0 hk) g c hL next (by have:=h.nb;omega)
 have hlt:next % sl.length<sl.length:=Nat.mod_lt _ h.pos
 have hsl:=fun W (hk:Keep [] w W)=>(h.keep0 hk).slot W base x L F next sl g c hL (next % sl.length) hlt
 have hq:sl.getD (next % sl.length) PSlot.none_=sl[next % sl.length]:=by rw [List.getD_eq_getElem?_getD,List.getElem?_eq_getElem hlt];rfl
 have hdat:=h.dat sl[next % sl.length] (List.getElem_mem _)
 have hc1:=fun W (hk:Keep [] w W)=>(h.keep0 hk).cells.2
 rw [hq]
 clear hq
 generalize sl[next % sl.length]=q at *
 obtain ⟨qv,⟨k,b,cc,e,d⟩,is⟩:=q
 simp only at hsl hdat
 obtain ⟨QA,qc,rfl,_⟩:=KB hdat
 generalize next % sl.length=i at *
 clear h hdat
 have hkA:Keep [] w (w.alloc (.cells #[.int .i64 0,.int .i64 0,.int .i64 0,.int .i64 0,.slice none 0 0] 46)):=(Keep.refl _ _).alloc _
 have hc1A:=hc1 _ hkA
 go_enter Tryz.func118,Tryz.ntmps118
 go_wp2_with (first
  | (go_at_call 116;refine (hN _ hkA).mono ?_;clear hN;rintro e w' ⟨rfl,rfl⟩)
  | (go_at_call 117;refine (hA _ hkA).mono ?_;clear hA;rintro e w1 ⟨rfl,hk1⟩))
 have hk1w:=hkA.trans0 hk1
 have hbz:=(Blk.new w 46 #[.int .i64 0,.int .i64 0,.int .i64 0,.int .i64 0,.slice none 0 0]).keep0 hk1
 have q0:=hbz.frozen 0
 have q1:=hbz.frozen 1
 have q2:=hbz.frozen 2
 have q3:=hbz.frozen 3
 have q4:=hbz.frozen 4
 obtain ⟨z0,z1,z2,z3,z4⟩:=ZI hbz
 have h5:=hbz.put5 (.int .i64 k) (.int .i64 b) (.int .i64 cc) (.int .i64 e) (.slice QA d.length qc)
 have hk5:=Keep.put5 w1 w.heap.size (.int .i64 k) (.int .i64 b) (.int .i64 cc) (.int .i64 e) (.slice QA d.length qc)
 unfold put5 at h5 hk5
 have hkZ:=(hk1w.trans hk5 (fun x hx => .inr (by simp at hx;omega))).drew
 replace h5:=h5.drew
 refine KA (fun w'=>w'.cell? ⟨g,i*6,none⟩=some (.int .i64 k)∧w'.cell? ⟨g,i*6+1,none⟩=some (.int .i64 b)∧w'.cell? ⟨g,i*6+2,none⟩=some (.int .i64 cc)∧w'.cell? ⟨g,i*6+3,none⟩=some (.int .i64 e)∧w'.cell? ⟨g,i*6+4,none⟩=some (.slice QA d.length qc)∧w'.cell? ⟨g,i*6+5,none⟩=some (.bool is)) 9 [(0,false),(1,false),(2,false),(3,false),(4,false),(5,false),(6,false),(7,false),(8,true)]
  (by kernel_rfl) (by kernel_rfl) (fun _ _ d _ _ h=>by cases d <;> exact h) (hsl _ (hk1w.trans0 (Keep.refl _ _).drew)) ?_
 simp only [PI]
 iterate 8 (refine XB ?_ (by rfl) ?_ ?_;rotate_left;(focus (rintro W ⟨hW0,hW1,hW2,hW3,hW4,hW5⟩;go_simp;try with_reducible rfl));simp only [Act.put,PU])
 refine QC (by rfl) (fun K hK=>?_)
 go_wp2_with fail
 refine hK _ _ ((hsl _ hkZ)) ?_
 clear hK K
 try simp only [Act.put,PU]
 refine YC ?_
 go_wp2_with fail
 obtain ⟨g0,g1,g2,g3,g4⟩:=ZI h5
 exact bodyPost_ret (v := .tuple #[.agg #[.int .i64 k,.int .i64 b,.int .i64 cc,.int .i64 e,.slice QA d.length qc],.bool is]) (by simp [results,Tryz.results118,go_sem,g0,g1,g2,g3,g4]) rfl ⟨_,rfl,rfl,⟨_,_,rfl⟩,hkZ⟩
end
end
section
open Go.RowKit
theorem JAO (sl:List PSlot) (i:Nat) (hi:i<sl.length) (y:PSlot) :
 ((((((sl.flatMap slc).set (i*6) (.int .i64 y.o.k)).set (i*6+1) (.int .i64 y.o.b)).set (i*6+2) (.int .i64 y.o.c)).set (i*6+3) (.int .i64 y.o.e)).set (i*6+4) y.v).set (i*6+5) (.bool y.is)=(sl.set i y).flatMap slc:=by
 rw [show (sl.flatMap slc).set (i*6) (.int .i64 y.o.k)=(sl.flatMap slc).set (i*6+0) (.int .i64 y.o.k) from rfl,XT QG sl i 0 hi (by omega) _ ⟨sl[i].v,⟨y.o.k,sl[i].o.b,sl[i].o.c,sl[i].o.e,sl[i].o.d⟩,sl[i].is⟩ rfl,
  XT QG _ i 1 (by simpa using hi) (by omega) _ ⟨sl[i].v,⟨y.o.k,y.o.b,sl[i].o.c,sl[i].o.e,sl[i].o.d⟩,sl[i].is⟩ (by simp [slc]),List.set_set,
  XT QG _ i 2 (by simpa using hi) (by omega) _ ⟨sl[i].v,⟨y.o.k,y.o.b,y.o.c,sl[i].o.e,sl[i].o.d⟩,sl[i].is⟩ (by simp [slc]),List.set_set,
  XT QG _ i 3 (by simpa using hi) (by omega) _ ⟨sl[i].v,⟨y.o.k,y.o.b,y.o.c,y.o.e,sl[i].o.d⟩,sl[i].is⟩ (by simp [slc]),List.set_set,
  XT QG _ i 4 (by simpa using hi) (by omega) _ ⟨y.v,⟨y.o.k,y.o.b,y.o.c,y.o.e,sl[i].o.d⟩,sl[i].is⟩ (by simp [slc]),List.set_set,
  XT QG _ i 5 (by simpa using hi) (by omega) _ y (by simp [slc]),List.set_set]
def put6 (w:World) (g i:Nat) (y:PSlot):World:=
 (((((w.setCell ⟨g,i*6,none⟩ (.int .i64 y.o.k)).setCell ⟨g,i*6+1,none⟩ (.int .i64 y.o.b)).setCell ⟨g,i*6+2,none⟩ (.int .i64 y.o.c)).setCell ⟨g,i*6+3,none⟩ (.int .i64 y.o.e)).setCell ⟨g,i*6+4,none⟩ y.v).setCell ⟨g,i*6+5,none⟩ (.bool y.is)
theorem Keep.put6 (w:World) (g i:Nat) (y:PSlot):Keep [g] w (Go.Proofs.YtmoagodllhdemaaGreat.put6 w g i y):=by
 unfold Go.Proofs.YtmoagodllhdemaaGreat.put6
 exact ((((((Keep.refl [g] w).setCell (.inl (by simp)) _).setCell (.inl (by simp)) _).setCell (.inl (by simp)) _).setCell (.inl (by simp)) _).setCell (.inl (by simp)) _).setCell (.inl (by simp)) _
theorem WinIs.setSlot {w w2:World} {base x:Nat} {L:Value} {F:List Nat} {next:Nat} {sl:List PSlot} (h:WinIs w base x L F next sl) (hk:Keep [] w w2) (g c:Nat) (hL:L = .slice (some ⟨g,0,none⟩) sl.length c) (i:Nat) (hi:i<sl.length) (y:PSlot)
 (hy:w2.ownsRow base 5 1 y.v y.o.d.length (bys y.o.d)) (hzn:y.is=false→y=PSlot.none_) :
 ∃ F',WinIs (put6 w2 g i y) base x L F' next (sl.set i y)∧Keep F w (put6 w2 g i y)∧∀ z∈F',z∈F∨z∈y.v.ownBlock.toList:=by
 have h2:=h.keep0 hk
 have hk6:=Keep.put6 w2 g i y
 have hxg:x∉[g]:=fun hm=>h2.xL (by rw [hL];simp at hm;simp [Value.ownBlock,hm])
 have hst:∀ {q:Value} {n:Nat} {ys:List Value},w2.ownsRow base 5 1 q n ys→(put6 w2 g i y).ownsRow base 5 1 q n ys:=fun hq=>JB hq hk6 (fun z hz hm=>by
  simp at hm;subst hm;exact own_ne hq h2.row (by decide) hz (by rw [hL];rfl))
 have hrow:(put6 w2 g i y).ownsRow base 195 6 L (sl.set i y).length ((sl.set i y).flatMap slc):=by
  rw [← JAO sl i hi y,List.length_set]
  have hr:=h2.row
  subst hL
  exact QN (QN (QN (QN (QN (QN hr _ _) _ _) _ _) _ _) _ _) _ _
 refine ⟨_,⟨h2.blk.keep hk6 hxg,hrow,fun q hq=>?_,rfl,h.base,by simpa using h.pos,by simpa using h.few,fun q hq hf=>?_,h.nb⟩,?_,fun z hz=>?_⟩
 · rcases List.mem_or_eq_of_mem_set hq with hq | rfl
   · exact hst (h2.dat q hq)
   · exact hst hy
 · rcases List.mem_or_eq_of_mem_set hq with hq | rfl
   · exact h.zero q hq hf
   · exact hzn hf
 · exact hk.zero.trans (hk6.sub (m:=F) (fun z hz=>by simp at hz;subst hz;exact h.inL _ (by rw [hL];simp [Value.ownBlock]))) (fun z hz => .inl hz)
 · simp only [List.mem_cons,List.mem_append,List.mem_flatMap] at hz
   rcases hz with rfl | hz | ⟨q,hq,hz⟩
   · exact .inl h.inX
   · exact .inl (h.inL _ hz)
   · rcases List.mem_or_eq_of_mem_set hq with hq | rfl
     · exact .inl (h.inQ hq _ hz)
     · exact .inr hz
theorem WinIs.setNext {w:World} {base x:Nat} {L:Value} {F:List Nat} {next:Nat} {sl:List PSlot} (h:WinIs w base x L F next sl) (n:Nat) (hn:1≤n∧n≤2000000000) :
 WinIs (w.setCell ⟨x,1,none⟩ (.int .i64 n)) base x L F n sl∧Keep F w (w.setCell ⟨x,1,none⟩ (.int .i64 n)):=by
 have hk:Keep [x] w (w.setCell ⟨x,1,none⟩ (.int .i64 n)):=(Keep.refl _ _).setCell (p:=⟨x,1,none⟩) (.inl (by simp)) _
 exact ⟨⟨by simpa using h.blk.set 1 (.int .i64 n),JB h.row hk (fun z hz hm=>by simp at hm;subst hm;exact h.xL (by simpa using hz)),fun q hq=>JB (h.dat q hq) hk (fun z hz hm=>by simp at hm;subst hm;exact h.xQ hq (by simpa using hz)),
  h.foot,h.base,h.pos,h.few,h.zero,hn⟩,hk.sub (fun z hz=>by simp at hz;subst hz;exact h.inX)⟩
theorem PSlot.none_dat (w:World) (base:Nat):w.ownsRow base 5 1 PSlot.none_.v PSlot.none_.o.d.length (bys PSlot.none_.o.d):=World.ownsRow_nil _ _ _ _
section
variable (w:World) (base x:Nat) (L:Value) (F:List Nat) (next:Nat) (sl:List PSlot) (h:WinIs w base x L F next sl)
include h
theorem QAh (hq:(sl.getD (next % sl.length) PSlot.none_).is=true):Calls Tryz.prog 120 #[.pointer (some ⟨x,0,none⟩)] w fun e w'=>e = .returned (.bool true)∧∃ F',WinIs w' base x L F' next (sl.set (next % sl.length) PSlot.none_)∧Keep F w w'∧∀ z∈F',z∈F:=by
 obtain ⟨g,c,hL,hc⟩:=h.form
 have hlt:next % sl.length<sl.length:=Nat.mod_lt _ h.pos
 have hP:=PeekW_is w base x L F next sl h
 have hA:=fun W (hk:Keep [] w W)=>QAK W base x L F next sl (h.keep0 hk) g c hL next (by have:=h.nb;omega)
 have hres:=fun W (hk:Keep [] w W)=>h.setSlot hk g c hL (next % sl.length) hlt PSlot.none_ (PSlot.none_dat W base) (fun _=>rfl)
 have hc1:=fun W (hk:Keep [] w W)=>(h.keep0 hk).cells.2
 have hxl:=h.blk.lt
 have hsl:=fun W (hk:Keep [] w W)=>(h.keep0 hk).slot W base x L F next sl g c hL (next % sl.length) hlt
 have hfz:∀ W,Keep [] w W→∀ j,W.frozen? ⟨g,j,none⟩=false:=fun W hk j=>VM (by have:=(h.keep0 hk).row;rw [hL] at this;exact this) j
 clear h
 generalize sl[next % sl.length]=q0 at hsl
 obtain ⟨q0v,q0o,q0i⟩:=q0
 simp only at hsl
 obtain ⟨i,hi⟩:∃ i,i=next % sl.length:=⟨_,rfl⟩
 rw [← hi] at hA hres hsl hlt
 have HI:=JC hi
 have HQ:=JC hq
 clear hq hi
 go_enter Tryz.func120,Tryz.ntmps120
 go_wp2_with (first
  | (go_at_call 118
     refine hP.mono ?_
     clear hP
     rintro e w1 ⟨q,hq,rfl,⟨QA,qc,hqv⟩,hk1⟩
     rw [← hq,JA HQ,hq,hqv]
     clear hq hqv
     have k1:=hc1 w1 hk1
     have hx1:x<w1.heap.size:=Nat.lt_of_lt_of_le hxl hk1.size)
  | (go_at_call 117
     refine (hA _ (by exact hk1.alloc _)).mono ?_
     clear hA
     rintro e w2 ⟨rfl,hk2⟩
     have hk2w:=(hk1.alloc _).trans0 hk2
     obtain ⟨s0,s1,s2,s3,s4,s5⟩:=hsl w2 hk2w
     have f0:=hfz w2 hk2w (i*6)
     have f1:=hfz w2 hk2w (i*6+1)
     have f2:=hfz w2 hk2w (i*6+2)
     have f3:=hfz w2 hk2w (i*6+3)
     have f4:=hfz w2 hk2w (i*6+4)
     have f5:=hfz w2 hk2w (i*6+5)))
 go_ret
 obtain ⟨F',r1,r2,r3⟩:=hres w2 hk2w
 simp only [put6,PSlot.none_,POp.zero] at r1 r2
 rw [← JA HI]
 simp only [PSlot.none_,POp.zero]
 refine ⟨rfl,F',r1,r2,fun z hz=>(r3 z hz).resolve_right (by simp [PSlot.none_,Value.ownBlock])⟩
theorem JAt (hq:(sl.getD (next % sl.length) PSlot.none_).is=true) (hn:next≤1000000000):Calls Tryz.prog 121 #[.pointer (some ⟨x,0,none⟩)] w fun e w'=>∃ v b,e = .returned (.tuple #[v,b])∧∃ F',WinIs w' base x L F' (next+1) (sl.set (next % sl.length) PSlot.none_)∧Keep F w w'∧∀ z∈F',z∈F:=by
 have hP:=PeekW_is w base x L F next sl h
 have hC:=fun W (hk:Keep [] w W)=>QAh W base x L F next sl (h.keep0 hk) hq
 have hlt:=h.lt
 have hxl:=h.blk.lt
 go_enter Tryz.func121,Tryz.ntmps121
 have hkA:Keep [] w (w.alloc (.cells #[.int .i64 0,.int .i64 0,.int .i64 0,.int .i64 0,.slice none 0 0] 46)):=(Keep.refl _ _).alloc _
 have hPA:=PeekW_is _ base x L F next sl (h.keep0 hkA)
 have hbz:=Blk.new w 46 #[.int .i64 0,.int .i64 0,.int .i64 0,.int .i64 0,.slice none 0 0]
 go_wp2_with (first
  | (go_at_call 118
     refine hPA.mono ?_
     clear hPA hP
     rintro e w1 ⟨q,hq',rfl,⟨QA,qc,hqv⟩,hk1⟩
     rw [hqv]
     clear hq' hqv
     have hC1:=hC _ ((hkA.trans0 hk1).alloc (.cells #[.int .i64 q.o.k,.int .i64 q.o.b,.int .i64 q.o.c,.int .i64 q.o.e,.slice QA q.o.d.length qc] 46))
     have hbv:=Blk.new w1 46 #[.int .i64 q.o.k,.int .i64 q.o.b,.int .i64 q.o.c,.int .i64 q.o.e,.slice QA q.o.d.length qc]
     replace hbz:=hbz.keep0 (hk1.alloc (.cells #[.int .i64 q.o.k,.int .i64 q.o.b,.int .i64 q.o.c,.int .i64 q.o.e,.slice QA q.o.d.length qc] 46))
     clear hC)
  | (go_at_call 120
     refine hC1.mono ?_
     clear hC1
     rintro e w2 ⟨rfl,F',h2,hk2,hF2⟩
     have hs1:=(hkA.trans0 hk1).size
     have hzn:w.heap.size∉F:=fun hm=>by have:=hlt _ hm;omega
     have hvn:w1.heap.size∉F:=fun hm=>by have:=hlt _ hm;omega
     replace hbz:=hbz.keep hk2 hzn
     replace hbv:=hbv.keep hk2 hvn
     obtain ⟨v0,v1,v2,v3,v4⟩:=ZI hbv
     obtain ⟨z0,z1,z2,z3,z4⟩:=ZI hbz
     have f0:=hbz.frozen 0
     have f1:=hbz.frozen 1
     have f2:=hbz.frozen 2
     have f3:=hbz.frozen 3
     have f4:=hbz.frozen 4
     have k1:=h2.cells.2
     have g1:=h2.blk.frozen 1
     have hne1:x≠w.heap.size:=by omega
     have hne2:x≠w1.heap.size:=by omega))
 obtain ⟨h3,hk3⟩:=h2.setNext (next+1) (by omega)
 have hk3x:Keep [x] w2 (w2.setCell ⟨x,1,none⟩ (.int .i64 (next+1:Nat))):=(Keep.refl _ _).setCell (p:=⟨x,1,none⟩) (.inl (by simp)) _
 have hbz3:=hbz.keep hk3x (by simpa using fun e=>hne1 e.symm)
 have h5:=hbz3.put5 (.int .i64 q.o.k) (.int .i64 q.o.b) (.int .i64 q.o.c) (.int .i64 q.o.e) (.slice QA q.o.d.length qc)
 have hk5:=Keep.put5 (w2.setCell ⟨x,1,none⟩ (.int .i64 (next+1:Nat))) w.heap.size (.int .i64 q.o.k) (.int .i64 q.o.b) (.int .i64 q.o.c) (.int .i64 q.o.e) (.slice QA q.o.d.length qc)
 have h4:=h3.keep hk5 (fun z hz hm=>by simp at hm;subst hm;exact hzn (hF2 _ hz))
 unfold put5 at h5 hk5 h4
 obtain ⟨g0,g1,g2,g3,g4⟩:=ZI h5
 have hcast:((next+1:Nat):Int)=(next:Nat)+1:=by omega
 rw [hcast] at g0 g1 g2 g3 g4 h4 hk5 hk3
 refine bodyPost_ret (v := .tuple #[.agg #[.int .i64 q.o.k,.int .i64 q.o.b,.int .i64 q.o.c,.int .i64 q.o.e,.slice QA q.o.d.length qc],.bool q.is]) (by simp [results,Tryz.results121,go_sem,g0,g1,g2,g3,g4]) rfl ⟨_,_,rfl,F',h4,?_,hF2⟩
 exact ((((hkA.trans0 hk1).alloc _).zero.trans hk2 (fun z hz => .inl hz)).trans hk3 (fun z hz => .inl (hF2 z hz))).trans hk5 (fun z hz => .inr (by simp at hz;omega))
end
end
end Go.Proofs.YtmoagodllhdemaaGreat
