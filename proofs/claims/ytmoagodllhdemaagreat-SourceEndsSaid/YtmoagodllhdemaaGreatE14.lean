/-
  A part of the proof: lemmas, and contracts of functions; their conditions stand in them.
-/
import Derived.Test.YtmoagodllhdemaaGreatE08
import Derived.Test.YtmoagodllhdemaaGreatE12
namespace Go.Proofs.YtmoagodllhdemaaGreat
set_option linter.unusedSimpArgs false
set_option linter.unusedVariables false
set_option maxHeartbeats 8000000
set_option maxRecDepth 20000
section
open Go.RowKit
theorem DecPost.of_frame {w w':World} {r:Ending} {k v s b c e d:Nat} {data:List UInt8} (hm:FrMay k v s b c e d data) (h:DecPost w (QF k v s b c e d data) r w') :
 Keep [] w w'∧∃ u,r = .returned (.tuple #[.agg #[.int .i64 k,.int .i64 v,.int .i64 s,.int .i64 b,.int .i64 c,.int .i64 e,.int .i64 d,u],.int .i64 0])∧w'.ownsRow w.heap.size 5 1 u data.length (bys data):=by
 obtain ⟨b1,b2,b3,b4,b5,b6,b7,b8⟩:=hm.bounds
 have hp:=KY k v s b c e d data (by omega) (by omega) (by omega) (by omega) (by omega) (by omega) (by omega)
 obtain ⟨hk,h | h⟩:=h
 · obtain ⟨_,_,u,h1,h2⟩:=h
   rw [hp] at h1 h2
   exact ⟨hk,u,h1,by simpa using h2⟩
 · exact absurd ⟨by rw [hp];exact hm,by rw [hp];rfl⟩ h.1
theorem KAM (hD:DecodeWord) (w0 w:World) (s view size epoch seq acked done:Nat) (L:Value) (os:List (Value×POp)) (h:Src w0 w s view size epoch seq acked done L os) (A:Option Addr) (c q e d:Nat)
 (ha:Rd w A 25 (bys (QF 8 view q 0 0 e d []))) (hv:1≤view∧view≤2147483647) (hq:q≤seq) (hd:d≤q) (he:e≤2147483647) (D Q:Nat) (hDc:(done<d∧D=d)∨(d≤done∧D=done)) (hQc:(D<q∧Q=q)∨(q≤D∧Q=D)) (hDs:D≤seq) :
 Calls Tryz.prog 82 #[.pointer (some ⟨s,0,none⟩),.slice A 25 c] w fun r w'=>∃ L',r = .returned (.int .i64 0)∧Src w0 w' s view size epoch seq Q D L' (os.drop (D-done))∧Keep [s] w w' ∧
  ∀ g∈L'.ownBlock.toList,w.heap.size≤g:=by
 have hfew:=h.few
 have hlen:=h.len
 have hT:=hD A 25 c _ w ha (by omega) (by omega)
 obtain ⟨m,hm⟩:∃ m,m=D-done:=⟨_,rfl⟩
 have hx3:IntKind.i64.wrap (((D:Nat):Int)-((done:Nat):Int))=(m:Nat):=by rw [IntKind.wrap_i64];omega
 have hmo:m≤os.length:=by omega
 obtain ⟨n,hn⟩:∃ n,n=os.length:=⟨_,rfl⟩
 obtain ⟨LA,lc,hL,hlc,hlc63⟩:∃ LA lc,L = .slice LA n lc∧n≤lc∧lc≤9223372036854775807:=by
  obtain ⟨A,c,h1,h2,h3,_⟩:=JB h.row
  exact ⟨A,c,by rw [hn];exact h1,by omega,h3⟩
 subst hL
 have hSrc:=h
 have hmn:m≤n:=by omega
 have hn6:n≤1000000:=by omega
 have hmz:(0:Int)≤(m:Nat):=by omega
 have hrd:=h.rd rfl
 have HM:=JC hm
 have HN:=JC hn
 have HX3:=JC hx3
 have HLEN:=JC hlen
 have hD0:done≤D:=by omega
 clear hm hn hx3 hlen hmo
 go_enter Tryz.func82,Tryz.ntmps82
 go_wp2_with (
  (refine hT.mono ?_)
  clear hT
  rintro r w1 hP
  obtain ⟨hk1,u,rfl,hu⟩:=DecPost.of_frame ⟨by omega,.inr (.inr (.inr (.inl ⟨rfl,by omega,rfl,rfl,by omega,by omega,rfl⟩)))⟩ hP
  obtain ⟨UA,uc,rfl,_⟩:=JB hu)
 have hkW:Keep [] w (w1.alloc (.cells #[.int .i64 8,.int .i64 view,.int .i64 q,.int .i64 0,.int .i64 0,.int .i64 e,.int .i64 d,.slice UA 0 uc] 85)):=hk1.alloc _
 have hSW:=h.keep0 hkW
 have hfr:=Blk.new w1 85 #[.int .i64 8,.int .i64 view,.int .i64 q,.int .i64 0,.int .i64 0,.int .i64 e,.int .i64 d,.slice UA 0 uc]
 have hf5:=hk1.size
 generalize w1.alloc (.cells #[.int .i64 8,.int .i64 view,.int .i64 q,.int .i64 0,.int .i64 0,.int .i64 e,.int .i64 d,.slice UA 0 uc] 85)=W at *
 generalize w1.heap.size=f5 at *
 clear hu hk1 hP
 obtain ⟨c0,c1,c2,c3,c4,c5,c6⟩:=VC hSW.blk
 obtain ⟨e0,e1,e2,e3,e4,e5,e6,e7⟩:=YB hfr
 refine KA (fun w'=>w'.cell? ⟨f5,1,none⟩=some (.int .i64 view)∧w'.cell? ⟨s,0,none⟩=some (.int .i64 view)) 6 [(0,false),(1,false),(2,false),(3,false),(4,false),(5,false)]
  (by kernel_rfl) (by kernel_rfl) (fun _ _ d _ _ h=>by cases d <;> exact h) ⟨e1,c0⟩ ?_
 simp only [PI]
 iterate 6 (refine ZB ?_ (by rfl) ?_ ?_;rotate_left;(focus (rintro W ⟨hW1,hW2⟩;go_simp;try with_reducible rfl));simp only [Act.put,PU])
 refine ZC ?_
 go_wp2
 refine KA (fun w'=>w'.cell? ⟨f5,2,none⟩=some (.int .i64 q)∧w'.cell? ⟨s,3,none⟩=some (.int .i64 seq)) 6 [(0,false),(1,false),(2,false),(3,false),(4,false),(5,false)]
  (by kernel_rfl) (by kernel_rfl) (fun _ _ d _ _ h=>by cases d <;> exact h) ⟨e2,c3⟩ ?_
 simp only [PI]
 iterate 6 (refine ZB ?_ (by rfl) ?_ ?_;rotate_left;(focus (rintro W ⟨hW1,hW2⟩;go_simp;try with_reducible rfl));simp only [Act.put,PU])
 refine ZC ?_
 go_wp2
 rcases hDc with ⟨hdd,hDe⟩ | ⟨hdd,hDe⟩ <;> subst hDe
 · refine KA (fun w'=>w'.cell? ⟨f5,6,none⟩=some (.int .i64 D)∧w'.cell? ⟨s,5,none⟩=some (.int .i64 done)) 6 [(0,false),(1,false),(2,false),(3,false),(4,false),(5,false)]
    (by kernel_rfl) (by kernel_rfl) (fun _ _ d _ _ h=>by cases d <;> exact h) ⟨e6,c5⟩ ?_
   simp only [PI]
   iterate 6 (refine ZB ?_ (by rfl) ?_ ?_;rotate_left;(focus (rintro W ⟨hW1,hW2⟩;go_simp;try with_reducible rfl));simp only [Act.put,PU])
   refine ZC ?_
   go_wp2
   have hx3:=JA HX3
   refine KA (fun w'=>w'.cell? ⟨s,5,none⟩=some (.int .i64 done)∧w'.cell? ⟨s,6,none⟩=some (.slice LA n lc)) 13 [(0,false),(1,false),(2,false),(3,false),(4,false),(5,false),(6,false),(7,false),(8,false),(9,false),(10,false),(11,false),(12,true)]
    (by kernel_rfl) (by kernel_rfl) (fun _ _ d _ _ h=>by cases d <;> exact h) ⟨c5,c6⟩ ?_
   simp only [PI]
   iterate 12 (refine ZB ?_ (by rfl) ?_ ?_;rotate_left;(focus (rintro W ⟨hW1,hW2⟩;go_simp;try with_reducible rfl));simp only [Act.put,PU])
   refine KB (by rfl) (fun K hK=>?_)
   clear hx3
   generalize hCA:(ite (lc=m) LA (Option.map (fun x=>x.add (m*5)) LA))=CA
   have hcut:OpsRd W CA (n-m) (os.drop m):=⟨by
    have h1:=(hSW.rd rfl).1.cutN 5 hmn hlc
    rw [Jt] at h1
    rw [← hCA];exact h1,by rw [List.length_drop,← JA HN]⟩
   have HCA:=JC hCA
   clear hCA
   have hcl:=Kc CA (n-m) (lc-m) (os.drop m) W.drew.drew.drew.drew (hcut.keep (Keep.refl _ _).drew.drew.drew.drew) (fun p hp=>hSW.one p (List.mem_of_mem_drop hp)) (by omega)
   go_wp2_with (refine hcl.mono ?_;clear hcl;rintro r w3 ⟨v',rfl,hv',hk3⟩;obtain ⟨VA,vc,rfl,_⟩:=JB hv')
   replace hk3:Keep [] W w3:=(Keep.refl [] W).drew.drew.drew.drew.trans0 hk3
   have hS3:=hSW.keep0 hk3
   have hfr3:=hfr.keep0 hk3
   clear c0 c1 c2 c3 c4 c5 c6 e0 e1 e2 e3 e4 e5 e6 e7
   obtain ⟨c0,c1,c2,c3,c4,c5,c6⟩:=VC hS3.blk
   obtain ⟨e0,e1,e2,e3,e4,e5,e6,e7⟩:=YB hfr3
   have hf6:=hS3.blk.frozen 6
   have hsl3:=hS3.lt
   refine hK _ _ (⟨c5,c6⟩) ?_
   clear hK K
   try simp only [Act.put,PU]
   refine ZC ?_
   go_wp2
   have hsf:s≠f5:=Blk.ne_ hS3.blk hfr3 (by decide)
   have hb6:Blk (w3.setCell ⟨s,6,none⟩ (.slice VA (n-m) vc)) s 149 #[.int .i64 view,.int .i64 size,.int .i64 epoch,.int .i64 seq,.int .i64 acked,.int .i64 done,.slice VA (n-m) vc]:=by simpa using hS3.blk.set 6 (.slice VA (n-m) vc)
   have hfr6:=hfr3.far (p:=⟨s,6,none⟩) (Ne.symm hsf) (.slice VA (n-m) vc)
   have e2':=(YB hfr6).2.2.1
   have hk6:Keep [s] w3 (w3.setCell ⟨s,6,none⟩ (.slice VA (n-m) vc)):=(Keep.refl _ _).setCell (p:=⟨s,6,none⟩) (.inl (by simp)) _
   clear c0 c1 c2 c3 c4 c5 c6 hf6 e0 e1 e2 e3 e4 e5 e6 e7
   have hsl6:=hb6.lt
   have hf5':=hb6.frozen 5
   have hc5':=(VC hb6).2.2.2.2.2.1
   have hf4':=hb6.frozen 4
   have hc4':=(VC hb6).2.2.2.2.1
   obtain ⟨W6,hW6⟩:∃ W6,W6=w3.setCell ⟨s,6,none⟩ (.slice VA (n-m) vc):=⟨_,rfl⟩
   rw [← hW6] at hb6 hfr6 e2' hk6 hsl6 hf5' hc5' hf4' hc4'
   simp only [← hW6]
   clear hW6
   rcases hQc with ⟨hqq,hQe⟩ | ⟨hqq,hQe⟩
   all_goals (subst hQe)
   focus
    refine KA (fun w'=>w'.cell? ⟨f5,2,none⟩=some (.int .i64 Q)) 10 [(0,false),(1,false),(2,false),(3,false),(4,false),(5,false),(6,false),(7,false),(8,false),(9,true)]
     (by kernel_rfl) (by kernel_rfl) (fun _ _ d _ _ h=>by cases d <;> exact h) e2' ?_
    simp only [PI]
    iterate 9 (refine ZB ?_ (by rfl) ?_ ?_;rotate_left;(focus (intro W hW;obtain hW1:=hW;go_simp;try with_reducible rfl));simp only [Act.put,PU])
    refine KB (by rfl) (fun K hK=>?_)
    go_wp2_with fail
    have hfr7:=(hfr6.drew.far (p:=⟨s,5,none⟩) (Ne.symm hsf) (.int .i64 D))
    refine hK _ _ ((YB hfr7).2.2.1) ?_
    clear hK K
    try simp only [Act.put,PU]
    refine ZC ?_
    go_wp2
    go_ret
    have hk9:Keep [s] w3 (((W6.setCell ⟨s,5,none⟩ (.int .i64 D)).setCell ⟨s,4,none⟩ (.int .i64 Q)).drew):=((hk6.setCell (p:=⟨s,5,none⟩) (.inl (by simp)) _).setCell (p:=⟨s,4,none⟩) (.inl (by simp)) _).drew
    have hb9:Blk (((W6.setCell ⟨s,5,none⟩ (.int .i64 D)).setCell ⟨s,4,none⟩ (.int .i64 Q)).drew) s 149 #[.int .i64 view,.int .i64 size,.int .i64 epoch,.int .i64 seq,.int .i64 Q,.int .i64 D,.slice VA (n-m) vc]:=by
     have:=((hb6.set 5 (.int .i64 D)).set 4 (.int .i64 Q)).drew
     simpa using this
    have hbase:w.heap.size≤W.drew.drew.drew.drew.heap.size:=hkW.size
    have hsV:∀ g,(Value.slice VA (n-m) vc).ownBlock=some g→g∉[s]:=fun g hg hm=>by
     have h1:=(own_mem hv' (g:=g) (by simpa using hg)).1
     have h2:=hSrc.lt
     simp at hm
     omega
    refine ⟨_,rfl,⟨hb9,?_,fun p hp=>QB (hS3.data p (List.mem_of_mem_drop hp)) hk9 (fun g hg hm=>by simp at hm;subst hm;exact hS3.data_s (List.mem_of_mem_drop hp) (by simpa using hg)),fun p hp=>hSrc.small p (List.mem_of_mem_drop hp),hSrc.new,hS3.keep.trans hk9 (fun x hx => .inr (by simp at hx;subst hx;exact hSrc.new)),by rw [List.length_drop];have:=JA HLEN;omega,hfew⟩,(hkW.trans0 hk3).zero.trans hk9 (fun x hx => .inl hx),fun g hg=>?_⟩
    · have h1:=QB (YC hv' (Nat.le_trans hSrc.keep.size hbase)) hk9 hsV
      rw [show os.drop (D-done)=os.drop m by rw [JA HM],List.length_drop,← JA HN]
      exact h1
    · exact Nat.le_trans hbase (own_mem hv' hg).1
   focus
    refine KA (fun w'=>w'.cell? ⟨f5,2,none⟩=some (.int .i64 q)) 10 [(0,false),(1,false),(2,false),(3,false),(4,false),(5,false),(6,false),(7,false),(8,false),(9,true)]
     (by kernel_rfl) (by kernel_rfl) (fun _ _ d _ _ h=>by cases d <;> exact h) e2' ?_
    simp only [PI]
    iterate 9 (refine ZB ?_ (by rfl) ?_ ?_;rotate_left;(focus (intro W hW;obtain hW1:=hW;go_simp;try with_reducible rfl));simp only [Act.put,PU])
    refine KB (by rfl) (fun K hK=>?_)
    go_wp2_with fail
    have hfr7:=(hfr6.drew.far (p:=⟨s,5,none⟩) (Ne.symm hsf) (.int .i64 Q))
    refine hK _ _ ((YB hfr7).2.2.1) ?_
    clear hK K
    try simp only [Act.put,PU]
    refine ZC ?_
    go_wp2
    go_ret
    have hk9:Keep [s] w3 (((W6.setCell ⟨s,5,none⟩ (.int .i64 Q)).setCell ⟨s,4,none⟩ (.int .i64 Q)).drew):=((hk6.setCell (p:=⟨s,5,none⟩) (.inl (by simp)) _).setCell (p:=⟨s,4,none⟩) (.inl (by simp)) _).drew
    have hb9:Blk (((W6.setCell ⟨s,5,none⟩ (.int .i64 Q)).setCell ⟨s,4,none⟩ (.int .i64 Q)).drew) s 149 #[.int .i64 view,.int .i64 size,.int .i64 epoch,.int .i64 seq,.int .i64 Q,.int .i64 Q,.slice VA (n-m) vc]:=by
     have:=((hb6.set 5 (.int .i64 Q)).set 4 (.int .i64 Q)).drew
     simpa using this
    have hbase:w.heap.size≤W.drew.drew.drew.drew.heap.size:=hkW.size
    have hsV:∀ g,(Value.slice VA (n-m) vc).ownBlock=some g→g∉[s]:=fun g hg hm=>by
     have h1:=(own_mem hv' (g:=g) (by simpa using hg)).1
     have h2:=hSrc.lt
     simp at hm
     omega
    refine ⟨_,rfl,⟨hb9,?_,fun p hp=>QB (hS3.data p (List.mem_of_mem_drop hp)) hk9 (fun g hg hm=>by simp at hm;subst hm;exact hS3.data_s (List.mem_of_mem_drop hp) (by simpa using hg)),fun p hp=>hSrc.small p (List.mem_of_mem_drop hp),hSrc.new,hS3.keep.trans hk9 (fun x hx => .inr (by simp at hx;subst hx;exact hSrc.new)),by rw [List.length_drop];have:=JA HLEN;omega,hfew⟩,(hkW.trans0 hk3).zero.trans hk9 (fun x hx => .inl hx),fun g hg=>?_⟩
    · have h1:=QB (YC hv' (Nat.le_trans hSrc.keep.size hbase)) hk9 hsV
      rw [show os.drop (Q-done)=os.drop m by rw [JA HM],List.length_drop,← JA HN]
      exact h1
    · exact Nat.le_trans hbase (own_mem hv' hg).1
 · refine KA (fun w'=>w'.cell? ⟨f5,6,none⟩=some (.int .i64 d)∧w'.cell? ⟨s,5,none⟩=some (.int .i64 D)) 6 [(0,false),(1,false),(2,false),(3,false),(4,false),(5,false)]
    (by kernel_rfl) (by kernel_rfl) (fun _ _ d _ _ h=>by cases d <;> exact h) ⟨e6,c5⟩ ?_
   simp only [PI]
   iterate 6 (refine ZB ?_ (by rfl) ?_ ?_;rotate_left;(focus (rintro W ⟨hW1,hW2⟩;go_simp;try with_reducible rfl));simp only [Act.put,PU])
   refine ZC ?_
   go_wp2
   have hx3:IntKind.i64.wrap 0=0:=rfl
   refine KA (fun w'=>w'.cell? ⟨s,5,none⟩=some (.int .i64 D)∧w'.cell? ⟨s,6,none⟩=some (.slice LA n lc)) 13 [(0,false),(1,false),(2,false),(3,false),(4,false),(5,false),(6,false),(7,false),(8,false),(9,false),(10,false),(11,false),(12,true)]
    (by kernel_rfl) (by kernel_rfl) (fun _ _ d _ _ h=>by cases d <;> exact h) ⟨c5,c6⟩ ?_
   simp only [PI]
   iterate 12 (refine ZB ?_ (by rfl) ?_ ?_;rotate_left;(focus (rintro W ⟨hW1,hW2⟩;go_simp;try with_reducible rfl));simp only [Act.put,PU])
   refine KB (by rfl) (fun K hK=>?_)
   clear hx3
   have hcl:=Kc LA n lc os W.drew.drew.drew.drew ((hSW.rd rfl).keep (Keep.refl _ _).drew.drew.drew.drew) hSW.one (by omega)
   go_wp2_with (refine hcl.mono ?_;clear hcl;rintro r w3 ⟨v',rfl,hv',hk3⟩;obtain ⟨VA,vc,rfl,_⟩:=JB hv')
   replace hk3:Keep [] W w3:=(Keep.refl [] W).drew.drew.drew.drew.trans0 hk3
   have hS3:=hSW.keep0 hk3
   have hfr3:=hfr.keep0 hk3
   clear c0 c1 c2 c3 c4 c5 c6 e0 e1 e2 e3 e4 e5 e6 e7
   obtain ⟨c0,c1,c2,c3,c4,c5,c6⟩:=VC hS3.blk
   obtain ⟨e0,e1,e2,e3,e4,e5,e6,e7⟩:=YB hfr3
   have hf6:=hS3.blk.frozen 6
   have hsl3:=hS3.lt
   refine hK _ _ (⟨c5,c6⟩) ?_
   clear hK K
   try simp only [Act.put,PU]
   refine ZC ?_
   go_wp2
   have hsf:s≠f5:=Blk.ne_ hS3.blk hfr3 (by decide)
   have hb6:Blk (w3.setCell ⟨s,6,none⟩ (.slice VA (n) vc)) s 149 #[.int .i64 view,.int .i64 size,.int .i64 epoch,.int .i64 seq,.int .i64 acked,.int .i64 D,.slice VA (n) vc]:=by simpa using hS3.blk.set 6 (.slice VA (n) vc)
   have hfr6:=hfr3.far (p:=⟨s,6,none⟩) (Ne.symm hsf) (.slice VA (n) vc)
   have e2':=(YB hfr6).2.2.1
   have hk6:Keep [s] w3 (w3.setCell ⟨s,6,none⟩ (.slice VA (n) vc)):=(Keep.refl _ _).setCell (p:=⟨s,6,none⟩) (.inl (by simp)) _
   clear c0 c1 c2 c3 c4 c5 c6 hf6 e0 e1 e2 e3 e4 e5 e6 e7
   have hsl6:=hb6.lt
   have hf5':=hb6.frozen 5
   have hc5':=(VC hb6).2.2.2.2.2.1
   have hf4':=hb6.frozen 4
   have hc4':=(VC hb6).2.2.2.2.1
   obtain ⟨W6,hW6⟩:∃ W6,W6=w3.setCell ⟨s,6,none⟩ (.slice VA (n) vc):=⟨_,rfl⟩
   rw [← hW6] at hb6 hfr6 e2' hk6 hsl6 hf5' hc5' hf4' hc4'
   simp only [← hW6]
   clear hW6
   rcases hQc with ⟨hqq,hQe⟩ | ⟨hqq,hQe⟩
   all_goals (subst hQe)
   focus
    refine KA (fun w'=>w'.cell? ⟨f5,2,none⟩=some (.int .i64 Q)) 10 [(0,false),(1,false),(2,false),(3,false),(4,false),(5,false),(6,false),(7,false),(8,false),(9,true)]
     (by kernel_rfl) (by kernel_rfl) (fun _ _ d _ _ h=>by cases d <;> exact h) e2' ?_
    simp only [PI]
    iterate 9 (refine ZB ?_ (by rfl) ?_ ?_;rotate_left;(focus (intro W hW;obtain hW1:=hW;go_simp;try with_reducible rfl));simp only [Act.put,PU])
    refine KB (by rfl) (fun K hK=>?_)
    go_wp2_with fail
    have hfr7:=(hfr6.drew.far (p:=⟨s,5,none⟩) (Ne.symm hsf) (.int .i64 D))
    refine hK _ _ ((YB hfr7).2.2.1) ?_
    clear hK K
    try simp only [Act.put,PU]
    refine ZC ?_
    go_wp2
    go_ret
    have hk9:Keep [s] w3 (((W6.setCell ⟨s,5,none⟩ (.int .i64 D)).setCell ⟨s,4,none⟩ (.int .i64 Q)).drew):=((hk6.setCell (p:=⟨s,5,none⟩) (.inl (by simp)) _).setCell (p:=⟨s,4,none⟩) (.inl (by simp)) _).drew
    have hb9:Blk (((W6.setCell ⟨s,5,none⟩ (.int .i64 D)).setCell ⟨s,4,none⟩ (.int .i64 Q)).drew) s 149 #[.int .i64 view,.int .i64 size,.int .i64 epoch,.int .i64 seq,.int .i64 Q,.int .i64 D,.slice VA (n) vc]:=by
     have:=((hb6.set 5 (.int .i64 D)).set 4 (.int .i64 Q)).drew
     simpa using this
    have hbase:w.heap.size≤W.drew.drew.drew.drew.heap.size:=hkW.size
    have hsV:∀ g,(Value.slice VA (n) vc).ownBlock=some g→g∉[s]:=fun g hg hm=>by
     have h1:=(own_mem hv' (g:=g) (by simpa using hg)).1
     have h2:=hSrc.lt
     simp at hm
     omega
    refine ⟨_,rfl,⟨hb9,?_,fun p hp=>QB (hS3.data p (List.mem_of_mem_drop hp)) hk9 (fun g hg hm=>by simp at hm;subst hm;exact hS3.data_s (List.mem_of_mem_drop hp) (by simpa using hg)),fun p hp=>hSrc.small p (List.mem_of_mem_drop hp),hSrc.new,hS3.keep.trans hk9 (fun x hx => .inr (by simp at hx;subst hx;exact hSrc.new)),by rw [Nat.sub_self,List.drop_zero];exact JA HLEN,hfew⟩,(hkW.trans0 hk3).zero.trans hk9 (fun x hx => .inl hx),fun g hg=>?_⟩
    · have h1:=QB (YC hv' (Nat.le_trans hSrc.keep.size hbase)) hk9 hsV
      rw [Nat.sub_self,List.drop_zero,← JA HN]
      exact h1
    · exact Nat.le_trans hbase (own_mem hv' hg).1
   focus
    refine KA (fun w'=>w'.cell? ⟨f5,2,none⟩=some (.int .i64 q)) 10 [(0,false),(1,false),(2,false),(3,false),(4,false),(5,false),(6,false),(7,false),(8,false),(9,true)]
     (by kernel_rfl) (by kernel_rfl) (fun _ _ d _ _ h=>by cases d <;> exact h) e2' ?_
    simp only [PI]
    iterate 9 (refine ZB ?_ (by rfl) ?_ ?_;rotate_left;(focus (intro W hW;obtain hW1:=hW;go_simp;try with_reducible rfl));simp only [Act.put,PU])
    refine KB (by rfl) (fun K hK=>?_)
    go_wp2_with fail
    have hfr7:=(hfr6.drew.far (p:=⟨s,5,none⟩) (Ne.symm hsf) (.int .i64 Q))
    refine hK _ _ ((YB hfr7).2.2.1) ?_
    clear hK K
    try simp only [Act.put,PU]
    refine ZC ?_
    go_wp2
    go_ret
    have hk9:Keep [s] w3 (((W6.setCell ⟨s,5,none⟩ (.int .i64 Q)).setCell ⟨s,4,none⟩ (.int .i64 Q)).drew):=((hk6.setCell (p:=⟨s,5,none⟩) (.inl (by simp)) _).setCell (p:=⟨s,4,none⟩) (.inl (by simp)) _).drew
    have hb9:Blk (((W6.setCell ⟨s,5,none⟩ (.int .i64 Q)).setCell ⟨s,4,none⟩ (.int .i64 Q)).drew) s 149 #[.int .i64 view,.int .i64 size,.int .i64 epoch,.int .i64 seq,.int .i64 Q,.int .i64 Q,.slice VA (n) vc]:=by
     have:=((hb6.set 5 (.int .i64 Q)).set 4 (.int .i64 Q)).drew
     simpa using this
    have hbase:w.heap.size≤W.drew.drew.drew.drew.heap.size:=hkW.size
    have hsV:∀ g,(Value.slice VA (n) vc).ownBlock=some g→g∉[s]:=fun g hg hm=>by
     have h1:=(own_mem hv' (g:=g) (by simpa using hg)).1
     have h2:=hSrc.lt
     simp at hm
     omega
    refine ⟨_,rfl,⟨hb9,?_,fun p hp=>QB (hS3.data p (List.mem_of_mem_drop hp)) hk9 (fun g hg hm=>by simp at hm;subst hm;exact hS3.data_s (List.mem_of_mem_drop hp) (by simpa using hg)),fun p hp=>hSrc.small p (List.mem_of_mem_drop hp),hSrc.new,hS3.keep.trans hk9 (fun x hx => .inr (by simp at hx;subst hx;exact hSrc.new)),by rw [Nat.sub_self,List.drop_zero];exact JA HLEN,hfew⟩,(hkW.trans0 hk3).zero.trans hk9 (fun x hx => .inl hx),fun g hg=>?_⟩
    · have h1:=QB (YC hv' (Nat.le_trans hSrc.keep.size hbase)) hk9 hsV
      rw [Nat.sub_self,List.drop_zero,← JA HN]
      exact h1
    · exact Nat.le_trans hbase (own_mem hv' hg).1
end
section
open Go.RowKit
theorem QAW (hD:DecodeWord) (w0 w:World) (s view size epoch seq acked done:Nat) (L:Value) (os:List (Value×POp)) (h:Src w0 w s view size epoch seq acked done L os) (A:Option Addr) (c q e d:Nat)
 (ha:Rd w A 25 (bys (QF 8 view q 0 0 e d []))) (hv:1≤view∧view≤2147483647) (hq:q≤seq) (hd:d≤q) (he:e≤2147483647) :
 Calls Tryz.prog 82 #[.pointer (some ⟨s,0,none⟩),.slice A 25 c] w fun r w'=>∃ L',r = .returned (.int .i64 0)∧Src w0 w' s view size epoch seq (max (max done d) q) (max done d) L' (os.drop (max done d-done))∧Keep [s] w w' ∧
  ∀ g∈L'.ownBlock.toList,w.heap.size≤g:=by
 have hlen:=h.len
 exact KAM hD w0 w s view size epoch seq acked done L os h A c q e d ha hv hq hd he (max done d) (max (max done d) q) (by omega) (by omega) (by omega)
section
variable (hD:DecodeWord) (w0 w:World) (s view size epoch seq acked done:Nat) (L:Value) (os:List (Value×POp)) (h:Src w0 w s view size epoch seq acked done L os) (A:Option Addr) (c:Nat)
include hD h
theorem ZAT (v q e d:Nat) (ha:Rd w A 25 (bys (QF 8 v q 0 0 e d []))) (hv:1≤v∧v≤2147483647) (hne:v≠view) (hq:q≤2147483647) (hd:d≤q) (he:e≤2147483647) :
 Calls Tryz.prog 82 #[.pointer (some ⟨s,0,none⟩),.slice A 25 c] w fun r w'=>r = .returned (.int .i64 8)∧Keep [] w w':=by
 have hT:=hD A 25 c _ w ha (by omega) (by omega)
 have hfew:=h.few
 have hvv:(((v:Nat):Int) != (view:Nat))=true:=by simp;omega
 clear hne
 go_enter Tryz.func82,Tryz.ntmps82
 go_wp2_with (
  (refine hT.mono ?_)
  clear hT
  rintro r w1 hP
  obtain ⟨hk1,u,rfl,hu⟩:=DecPost.of_frame ⟨by omega,.inr (.inr (.inr (.inl ⟨rfl,by omega,rfl,rfl,by omega,by omega,rfl⟩)))⟩ hP
  obtain ⟨UA,uc,rfl,_⟩:=JB hu)
 have hkW:Keep [] w (w1.alloc (.cells #[.int .i64 8,.int .i64 v,.int .i64 q,.int .i64 0,.int .i64 0,.int .i64 e,.int .i64 d,.slice UA 0 uc] 85)):=hk1.alloc _
 have hSW:=h.keep0 hkW
 have hfr:=Blk.new w1 85 #[.int .i64 8,.int .i64 v,.int .i64 q,.int .i64 0,.int .i64 0,.int .i64 e,.int .i64 d,.slice UA 0 uc]
 generalize w1.alloc (.cells #[.int .i64 8,.int .i64 v,.int .i64 q,.int .i64 0,.int .i64 0,.int .i64 e,.int .i64 d,.slice UA 0 uc] 85)=W at *
 generalize w1.heap.size=f5 at *
 obtain ⟨c0,c1,c2,c3,c4,c5,c6⟩:=VC hSW.blk
 obtain ⟨e0,e1,e2,e3,e4,e5,e6,e7⟩:=YB hfr
 refine KA (fun w'=>w'.cell? ⟨f5,1,none⟩=some (.int .i64 v)∧w'.cell? ⟨s,0,none⟩=some (.int .i64 view)) 6 [(0,false),(1,false),(2,false),(3,false),(4,false),(5,false)]
  (by kernel_rfl) (by kernel_rfl) (fun _ _ d _ _ h=>by cases d <;> exact h) ⟨e1,c0⟩ ?_
 simp only [PI]
 iterate 6 (refine ZB ?_ (by rfl) ?_ ?_;rotate_left;(focus (rintro W ⟨hW1,hW2⟩;go_simp;try with_reducible rfl));simp only [Act.put,PU])
 refine ZC ?_
 go_wp2
 go_ret
 exact ⟨rfl,hkW.drew⟩
theorem QAf (q e d:Nat) (ha:Rd w A 25 (bys (QF 8 view q 0 0 e d []))) (hv:1≤view∧view≤2147483647) (hq:q≤2147483647) (hqs:seq<q) (hd:d≤q) (he:e≤2147483647) :
 Calls Tryz.prog 82 #[.pointer (some ⟨s,0,none⟩),.slice A 25 c] w fun r w'=>r = .returned (.int .i64 1)∧Keep [] w w':=by
 have hT:=hD A 25 c _ w ha (by omega) (by omega)
 have hfew:=h.few
 go_enter Tryz.func82,Tryz.ntmps82
 go_wp2_with (
  (refine hT.mono ?_)
  clear hT
  rintro r w1 hP
  obtain ⟨hk1,u,rfl,hu⟩:=DecPost.of_frame ⟨by omega,.inr (.inr (.inr (.inl ⟨rfl,by omega,rfl,rfl,by omega,by omega,rfl⟩)))⟩ hP
  obtain ⟨UA,uc,rfl,_⟩:=JB hu)
 have hkW:Keep [] w (w1.alloc (.cells #[.int .i64 8,.int .i64 view,.int .i64 q,.int .i64 0,.int .i64 0,.int .i64 e,.int .i64 d,.slice UA 0 uc] 85)):=hk1.alloc _
 have hSW:=h.keep0 hkW
 have hfr:=Blk.new w1 85 #[.int .i64 8,.int .i64 view,.int .i64 q,.int .i64 0,.int .i64 0,.int .i64 e,.int .i64 d,.slice UA 0 uc]
 generalize w1.alloc (.cells #[.int .i64 8,.int .i64 view,.int .i64 q,.int .i64 0,.int .i64 0,.int .i64 e,.int .i64 d,.slice UA 0 uc] 85)=W at *
 generalize w1.heap.size=f5 at *
 obtain ⟨c0,c1,c2,c3,c4,c5,c6⟩:=VC hSW.blk
 obtain ⟨e0,e1,e2,e3,e4,e5,e6,e7⟩:=YB hfr
 refine KA (fun w'=>w'.cell? ⟨f5,1,none⟩=some (.int .i64 view)∧w'.cell? ⟨s,0,none⟩=some (.int .i64 view)) 6 [(0,false),(1,false),(2,false),(3,false),(4,false),(5,false)]
  (by kernel_rfl) (by kernel_rfl) (fun _ _ d _ _ h=>by cases d <;> exact h) ⟨e1,c0⟩ ?_
 simp only [PI]
 iterate 6 (refine ZB ?_ (by rfl) ?_ ?_;rotate_left;(focus (rintro W ⟨hW1,hW2⟩;go_simp;try with_reducible rfl));simp only [Act.put,PU])
 refine ZC ?_
 go_wp2
 refine KA (fun w'=>w'.cell? ⟨f5,2,none⟩=some (.int .i64 q)∧w'.cell? ⟨s,3,none⟩=some (.int .i64 seq)) 6 [(0,false),(1,false),(2,false),(3,false),(4,false),(5,false)]
  (by kernel_rfl) (by kernel_rfl) (fun _ _ d _ _ h=>by cases d <;> exact h) ⟨e2,c3⟩ ?_
 simp only [PI]
 iterate 6 (refine ZB ?_ (by rfl) ?_ ?_;rotate_left;(focus (rintro W ⟨hW1,hW2⟩;go_simp;try with_reducible rfl));simp only [Act.put,PU])
 refine ZC ?_
 go_wp2
 go_ret
 exact ⟨rfl,hkW.drew.drew⟩
end
end
section
open Go.RowKit
theorem XAi (w:World):Calls Tryz.prog 87 #[.pointer none] w fun e w'=>e = .returned (.int .i64 0)∧w=w':=by
 go_enter Tryz.func87,Tryz.ntmps87
 go_wp2
 go_ret
 exact ⟨rfl,rfl⟩
theorem XAL (w:World):Calls Tryz.prog 39 #[.pointer none] w fun e w'=>e = .returned (.int .i64 0)∧w=w':=by
 go_enter Tryz.func39,Tryz.ntmps39
 go_wp2
 go_ret
 exact ⟨rfl,rfl⟩
theorem XAc (k b c e:Int) (A:Option Addr) (n m:Nat) (w:World):Calls Tryz.prog 146 #[.pointer none,.agg #[.int .i64 k,.int .i64 b,.int .i64 c,.int .i64 e,.slice A n m]] w fun r w'=>r = .returned (.int .i64 1)∧Keep [] w w':=by
 have hk:Keep [] w (w.alloc (.cells #[.int .i64 k,.int .i64 b,.int .i64 c,.int .i64 e,.slice A n m] 46)):=(Keep.refl _ _).alloc _
 go_enter Tryz.func146,Tryz.ntmps146
 go_wp2
 go_ret
 exact ⟨rfl,hk⟩
theorem QAd (w:World):Calls Tryz.prog 86 #[.pointer none] w fun r w'=>r = .returned (.int .i64 1)∧Keep [] w w':=by
 have hE:=XAL w
 have hK:=XAc 3 0 0 1 none 0 0 w
 go_enter Tryz.func86,Tryz.ntmps86
 go_wp2_with (first
  | (refine hE.mono ?_;clear hE;rintro e w' ⟨rfl,rfl⟩)
  | (refine hK.mono ?_;clear hK;rintro e w1 ⟨rfl,hk⟩))
 go_ret
 exact ⟨rfl,hk⟩
end
end Go.Proofs.YtmoagodllhdemaaGreat
