/- Lemmas of the proof, with their conditions. -/
import Derived.Test.YthgphmfipnjllaaGreatV42
namespace Go.Proofs.YthgphmfipnjllaaGreat
set_option linter.unusedSimpArgs false
set_option linter.unusedVariables false
set_option maxHeartbeats 4000000
set_option maxRecDepth 20000
section
open Go.RowKit
theorem KBD (w:World) (base d n B:Nat) (F:List Nat) (hB1:1≤B) (hB2:B≤64) (hn:n=198+4*pgs B) (h:RDkNew w base d F n) (hbase:base≤w.heap.size) :
 Calls Tryz.prog 53 #[.pointer (some ⟨d,0,none⟩),VV B,.int .i64 1] w fun e w'=>∃ x,e=.returned (.tuple #[.pointer (some ⟨x,0,none⟩),.int .i64 0])∧Keep F w w':=by
 have hkA:Keep [] w (w.alloc (.cells #[.int .i64 B,.int .i64 8,.int .i64 24] 27)):=(Keep.refl _ _).alloc _
 have hF:=ZAS (w.alloc (.cells #[.int .i64 B,.int .i64 8,.int .i64 24] 27)) base d n B F hB1 hB2 hn (h.keep0 hkA) (by have:=hkA.size;omega)
 have hbc:=Blk.new w 27 #[.int .i64 B,.int .i64 8,.int .i64 24]
 have hFlt:=h.lt
 have hcF:w.heap.size∉F:=fun hm=>by have:=hFlt _ hm;omega
 have hT:=fun W G (hs:SegsR W G)=>ZAW W B G hs
 have hI:=fun W=>JAB B hB1 hB2 W
 have hW:=fun W t=>QAT W B d t
 obtain⟨c0,c1,c2⟩:=QC hbc
 unfold KAt at hF
 unfold VV pos0 at *
 clear h hn
 obtain⟨P,hPg⟩:∃ P,P=pgs B:=⟨_,rfl⟩
 rw[← hPg] at hF
 clear hPg
 go_enter Tryz.func53,Tryz.ntmps53
 go_wp2_with (
  refine hF.mono ?_
  clear hF
  rintro e w1 ⟨A1,q1,A2,q2,G,rfl,hs1,hk1⟩)
 have hbc1:=hbc.keep hk1 hcF
 have hkB:Keep F w w1:=(hkA.zero (l:=F)).trans hk1 (fun x hx=>.inl hx)
 have hbr:=Blk.new w1 185 #[.int .i64 1,.int .i64 1,.int .i64 1,.int .i64 0,.int .i64 0,.int .i64 0,.int .i64 0,.int .i64 0,.int .i64 1,.int .i64 0,.int .i64 1,.slice A1 P q1,.slice A2 P q2,.slice (some ⟨G,0,none⟩) 8 8]
 have hkr:=(Keep.refl [] w1).alloc (.cells #[.int .i64 1,.int .i64 1,.int .i64 1,.int .i64 0,.int .i64 0,.int .i64 0,.int .i64 0,.int .i64 0,.int .i64 1,.int .i64 0,.int .i64 1,.slice A1 P q1,.slice A2 P q2,.slice (some ⟨G,0,none⟩) 8 8] 185)
 have hbc2:=hbc1.keep0 hkr
 have hs2:=hs1.keep hkr
 generalize w1.alloc (.cells #[.int .i64 1,.int .i64 1,.int .i64 1,.int .i64 0,.int .i64 0,.int .i64 0,.int .i64 0,.int .i64 0,.int .i64 1,.int .i64 0,.int .i64 1,.slice A1 P q1,.slice A2 P q2,.slice (some ⟨G,0,none⟩) 8 8] 185)=w2 at *
 generalize w1.heap.size=rg at *
 have hkC:=hkB.trans0 hkr
 clear c0 c1 c2 hs1 hbc1 hbc
 have q10:=fun(W:World) (hk:Keep [] w2 W)=>cells14 (hbr.keep0 hk)
 have qc:=fun(W:World) (hk:Keep [] w2 W)=>QC (hbc2.keep0 hk)
 have hkd:Keep [] w2 w2.drew:=(Keep.refl _ _).drew
 obtain⟨e0,e1,e2,e3,e4,e5,e6,e7,e8,e9,e10,e11,e12,e13⟩:=q10 _ hkd
 obtain⟨c0,c1,c2⟩:=qc _ hkd
 refine ZT (fun w'=>w'.cell? ⟨w.heap.size,0,none⟩=some (.int .i64 (B:Nat))∧w'.cell? ⟨w.heap.size,1,none⟩=some (.int .i64 8)∧w'.cell? ⟨w.heap.size,2,none⟩=some (.int .i64 24)∧w'.cell? ⟨rg,10,none⟩=some (.int .i64 1)∧w'.cell? ⟨rg,11,none⟩=some (.slice A1 P q1)∧w'.cell? ⟨rg,12,none⟩=some (.slice A2 P q2)∧w'.cell? ⟨rg,13,none⟩=some (.slice (some ⟨G,0,none⟩) 8 8)) 17 [[0,1,2,3,4,5,6,7,8,10,11,13,14,15,16],[9],[12]] ⟨c0,c1,c2,e10,e11,e12,e13⟩ ?_
 simp only[PI]
 iterate 15 (refine ZH ?_;simp only[Act.put,PU])
 clear c0 c1 c2 e0 e1 e2 e3 e4 e5 e6 e7 e8 e9 e10 e11 e12 e13
 refine XB (by rfl) (fun K hK=>?_)
 go_wp2_with (refine(hT _ G (hs2.keep hkd)).mono ?_;clear hT;rintro e w3 ⟨tb,rfl,hk3⟩)
 replace hk3:=hkd.trans0 hk3
 obtain⟨e0,e1,e2,e3,e4,e5,e6,e7,e8,e9,e10,e11,e12,e13⟩:=q10 _ hk3
 obtain⟨c0,c1,c2⟩:=qc _ hk3
 refine hK _ _ (⟨c0,c1,c2,e10,e11,e12,e13⟩) ?_
 clear hK K
 try simp only[Act.put,PU]
 clear c0 c1 c2 e0 e1 e2 e3 e4 e5 e6 e7 e8 e9 e10 e11 e12 e13
 refine XB (by rfl) (fun K hK=>?_)
 go_wp2_with (refine(hI _).mono ?_;clear hI;rintro e w4 ⟨mm,Fi,rfl,_,hk4⟩)
 replace hk4:=hk3.trans0 hk4
 obtain⟨e0,e1,e2,e3,e4,e5,e6,e7,e8,e9,e10,e11,e12,e13⟩:=q10 _ hk4
 obtain⟨c0,c1,c2⟩:=qc _ hk4
 refine hK _ _ (⟨c0,c1,c2,e10,e11,e12,e13⟩) ?_
 clear hK K
 try simp only[Act.put,PU]
 clear c0 c1 c2 e0 e1 e2 e3 e4 e5 e6 e7 e8 e9 e10 e11 e12 e13
 refine JB ?_
 have hb5:=Blk.new w4 143 #[.pointer (some ⟨d,0,none⟩),.int .i64 B,.int .i64 8,.int .i64 24,.int .i64 1,.int .i64 1,.pointer (some ⟨tb,0,none⟩),.pointer none,.pointer (some ⟨mm,0,none⟩),.int .i64 1,.int .i64 1,.int .i64 0,.int .i64 0,.int .i64 0,.int .i64 1,.int .i64 0,.slice A1 P q1,.slice A2 P q2]
 have hk5:=(Keep.refl [] w4).alloc (.cells #[.pointer (some ⟨d,0,none⟩),.int .i64 B,.int .i64 8,.int .i64 24,.int .i64 1,.int .i64 1,.pointer (some ⟨tb,0,none⟩),.pointer none,.pointer (some ⟨mm,0,none⟩),.int .i64 1,.int .i64 1,.int .i64 0,.int .i64 0,.int .i64 0,.int .i64 1,.int .i64 0,.slice A1 P q1,.slice A2 P q2] 143)
 go_wp2_with fail
 replace hk5:=hk4.trans0 hk5
 generalize w4.alloc (.cells #[.pointer (some ⟨d,0,none⟩),.int .i64 B,.int .i64 8,.int .i64 24,.int .i64 1,.int .i64 1,.pointer (some ⟨tb,0,none⟩),.pointer none,.pointer (some ⟨mm,0,none⟩),.int .i64 1,.int .i64 1,.int .i64 0,.int .i64 0,.int .i64 0,.int .i64 1,.int .i64 0,.slice A1 P q1,.slice A2 P q2] 143)=w5 at *
 have hsge:w.heap.size≤w4.heap.size:=(hkC.trans0 hk4).size
 generalize w4.heap.size=sb at *
 have hkd5:Keep [] w5 w5.drew:=(Keep.refl _ _).drew
 obtain⟨e0,e1,e2,e3,e4,e5,e6,e7,e8,e9,e10,e11,e12,e13⟩:=q10 _ (hk5.trans0 hkd5)
 obtain⟨c0,c1,c2⟩:=qc _ (hk5.trans0 hkd5)
 have t6:w5.drew.cell? ⟨sb,6,none⟩=some (.pointer (some ⟨tb,0,none⟩)):=by simpa using(hb5.keep0 hkd5).cell 6
 refine ZT (fun w'=>w'.cell? ⟨w.heap.size,0,none⟩=some (.int .i64 (B:Nat))∧w'.cell? ⟨w.heap.size,1,none⟩=some (.int .i64 8)∧w'.cell? ⟨w.heap.size,2,none⟩=some (.int .i64 24)∧w'.cell? ⟨rg,6,none⟩=some (.int .i64 0)∧w'.cell? ⟨rg,7,none⟩=some (.int .i64 0)∧w'.cell? ⟨rg,8,none⟩=some (.int .i64 1)∧w'.cell? ⟨rg,9,none⟩=some (.int .i64 0)∧w'.cell? ⟨rg,10,none⟩=some (.int .i64 1)∧w'.cell? ⟨sb,6,none⟩=some (.pointer (some ⟨tb,0,none⟩))) 10 [[0,1,2,3,4,5,6,7,8],[9]] ⟨c0,c1,c2,e6,e7,e8,e9,e10,t6⟩ ?_
 simp only[PI]
 iterate 9 (refine ZH ?_;simp only[Act.put,PU])
 clear c0 c1 c2 e0 e1 e2 e3 e4 e5 e6 e7 e8 e9 e10 e11 e12 e13
 refine XB (by rfl) (fun K hK=>?_)
 go_wp2_with (refine(hW _ _).mono ?_;clear hW;rintro e w6 ⟨xw,rfl,hk6⟩)
 replace hk6:=hkd5.trans0 hk6
 obtain⟨e0,e1,e2,e3,e4,e5,e6,e7,e8,e9,e10,e11,e12,e13⟩:=q10 _ (hk5.trans0 hk6)
 obtain⟨c0,c1,c2⟩:=qc _ (hk5.trans0 hk6)
 have t6:w6.cell? ⟨sb,6,none⟩=some (.pointer (some ⟨tb,0,none⟩)):=by simpa using(hb5.keep0 hk6).cell 6
 refine hK _ _ (⟨c0,c1,c2,e6,e7,e8,e9,e10,t6⟩) ?_
 clear hK K
 try simp only[Act.put,PU]
 clear c0 c1 c2 e0 e1 e2 e3 e4 e5 e6 e7 e8 e9 e10 e11 e12 e13
 refine JB ?_
 have t7:w6.cell? ⟨sb,7,none⟩=some (.pointer none):=by simpa using(hb5.keep0 hk6).cell 7
 have f7:=(hb5.keep0 hk6).frozen 7
 have hlts:=(hb5.keep0 hk6).lt
 go_wp2_with fail
 go_ret2
 exact⟨sb,rfl,(hkC.trans0 (hk5.trans0 hk6)).setCell (p:=⟨sb,7,none⟩) (.inr hsge) _⟩
end
end Go.Proofs.YthgphmfipnjllaaGreat
