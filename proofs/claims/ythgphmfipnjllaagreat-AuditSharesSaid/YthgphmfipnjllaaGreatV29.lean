/- Lemmas of the proof, with their conditions. -/
import Derived.Test.YthgphmfipnjllaaGreatV28
namespace Go.Proofs.YthgphmfipnjllaaGreat
set_option linter.unusedSimpArgs false
set_option linter.unusedVariables false
set_option maxHeartbeats 4000000
set_option maxRecDepth 100000
section
open Go.RowKit Go.Shelf
attribute [local go_sem] Oper.semAt_some
theorem Kl (w:World) (s d g B base sg:Nat) (q p:PPos) (F:List Nat) (D:PDisk) (hs:XI w s d g sg q) (hg:GeomAt w g B) (h:DiskAt w base d F D) (hoff:D.off=false) (hn:D.n=198+4*pgs B) (hf:∀ k,k<D.n→D.faults[k]? = some false)
 (hp7:p.seg≤7) (hL:p.off=24∨p.off<24∧Vp (Go.Proofs.YthgphmfipnjllaaGreat.seg 64 D.now (YB B p.seg+p.off))) (hsF:s∉F) (hsg:s≠g) :
 Calls Tryz.prog 340 #[.pointer (some ⟨s,0,none⟩),.agg #[.int .i64 p.seg,.int .i64 p.off,.int .i64 p.lsn,.int .i64 p.prev,.int .i64 p.mount]] w fun e w'=>e=.returned (.tuple #[.agg #[.int .i64 0,.int .i64 0,.int .i64 0,.slice none 0 0,.slice none 0 0],.agg #[.int .i64 0,.int .i64 0,.int .i64 0,.int .i64 0,.int .i64 0],.bool false])∧XI w' s d g sg q∧Keep [s] w w':=by
 have hsl:=hs.lt
 have hpgs:=(KC hg.pos hg.few).2
 have hC:=fun W (hk:Keep [s] w W)=>ConfigG_is W g B (hg.keep hk (by simpa using fun e=>hsg e.symm))
 have hSg:∀ W,Keep [s] w W→Calls Tryz.prog 40 #[.pointer (some ⟨g,0,none⟩),.int .i64 p.seg] W fun e w'=>e=.returned (.int .i64 ((YB B p.seg:Nat)))∧Keep [] W w':=fun W hk=>VQ W g B (hg.keep hk (by simpa using fun e=>hsg e.symm)) p.seg hp7
 have hR:=fun W (hk:Keep [s] w W) (hS:XI W s d g sg q) (ho:p.off<24)=>VW W s d g sg base q F D hS (h.keep hk (fun x hx hm=>by simp at hm;subst hm;exact hsF hx)) hoff (YB B p.seg+p.off) (by unfold YB;omega) (hf _ (by unfold YB;omega))
 have hfd:=fun W=>VF (P:=Tryz.prog) Tryz.underlying27 2 rfl Tryz.isAgg3 #[.int .i64 B,.int .i64 8,.int .i64 24] rfl W
 obtain⟨sgp,off,lsn,prev,mount⟩:=p
 obtain⟨a,ha⟩:∃ a,a=YB B sgp+off:=⟨_,rfl⟩
 obtain⟨K,hK⟩:∃ K,K=YB B sgp:=⟨_,rfl⟩
 simp only at hSg hR hL hp7
 have hKo:off<24→IntKind.i64.wrap (((K:Nat):Int)+(off:Nat))=(a:Nat):=fun ho=>by rw[IntKind.wrap_i64];rw[hK,ha];unfold YB;omega
 rw[← ha] at hR hL
 rw[← hK] at hSg
 have hS:=OneSt.start (p:=⟨sgp,off,lsn,prev,mount⟩) hs
 have HR:=ZB hR
 clear ha hK hs hR
 go_enter Tryz.func340,Tryz.ntmps340
 go_wp2_with fail
 generalize (((w.alloc (.cells #[.int .i64 sgp,.int .i64 off,.int .i64 lsn,.int .i64 prev,.int .i64 mount] 72)).alloc (.cells #[.int .i64 0,.int .i64 0,.int .i64 0,.slice none 0 0,.slice none 0 0] 239)).alloc (.cells #[.int .i64 0,.int .i64 0,.int .i64 0,.int .i64 0,.int .i64 0] 72))=w1 at *
 replace hS:=hS.keep0 (Keep.refl [] w1).drew
 obtain⟨p0,p1,p2,p3,p4⟩:=cells5 hS.pos
 have c1:=hS.c1
 refine ZT (fun W=>W.cell? ⟨s,1,none⟩=some (.pointer (some ⟨g,0,none⟩))∧W.cell? ⟨w.heap.size,1,none⟩=some (.int .i64 off)) 8 [[0,1,2,3,4,5],[6,7]] ⟨c1,p1⟩ ?_
 simp only[PI]
 iterate 6 (refine ZH ?_;simp only[Act.put,PU])
 refine XB (by rfl) (fun K hK=>?_)
 go_wp2_with (refine(hC _ hS.keep).mono ?_;rintro e w2 ⟨rfl,hk2⟩)
 replace hS:=hS.keep0 hk2
 clear p0 p1 p2 p3 p4 c1
 obtain⟨p0,p1,p2,p3,p4⟩:=cells5 hS.pos
 have c1:=hS.c1
 refine hK _ _ (⟨c1,p1⟩) ?_
 clear hK K
 try simp only[Act.put,PU]
 iterate 1 (refine ZH ?_;simp only[Act.put,PU])
 refine JB ?_
 rcases hL with hL | ⟨ho,hz⟩
 · have hob:(24:Int)≤(off:Nat):=by omega
   go_wp2_with fail
   replace hS:=hS.keep0 (Keep.refl [] w2).drew
   clear p0 p1 p2 p3 p4 c1 hk2
   obtain⟨z0,z1,z2,z3,z4⟩:=ZC hS.rcd
   obtain⟨n0,n1,n2,n3,n4⟩:=cells5 hS.nxt
   refine ZT (fun W=>W.cell? ⟨w.heap.size+1,0,none⟩=some (.int .i64 0)∧W.cell? ⟨w.heap.size+1,1,none⟩=some (.int .i64 0)∧W.cell? ⟨w.heap.size+1,2,none⟩=some (.int .i64 0)∧W.cell? ⟨w.heap.size+1,3,none⟩=some (.slice none 0 0)∧W.cell? ⟨w.heap.size+1,4,none⟩=some (.slice none 0 0)∧W.cell? ⟨w.heap.size+1+1,0,none⟩=some (.int .i64 0)∧W.cell? ⟨w.heap.size+1+1,1,none⟩=some (.int .i64 0)∧W.cell? ⟨w.heap.size+1+1,2,none⟩=some (.int .i64 0)∧W.cell? ⟨w.heap.size+1+1,3,none⟩=some (.int .i64 0)∧W.cell? ⟨w.heap.size+1+1,4,none⟩=some (.int .i64 0)) 3 [[0,1],[2]] ⟨z0,z1,z2,z3,z4,n0,n1,n2,n3,n4⟩ ?_
   simp only[PI]
   iterate 2 (refine ZH ?_;simp only[Act.put,PU])
   refine XB (by rfl) (fun K hK=>?_)
   generalize w2.drew=wa at *
   have hltr:=hS.rcd.lt
   have f0:=hS.rcd.frozen 0
   have f1:=hS.rcd.frozen 1
   have f2:=hS.rcd.frozen 2
   have f3:=hS.rcd.frozen 3
   have f4:=hS.rcd.frozen 4
   go_wp2_with fail
   obtain⟨hz2,kz2⟩:=KAJ hS.rcd (.int .i64 0) (.int .i64 0) (.int .i64 0) (.slice none 0 0) (.slice none 0 0)
   have hnb:=hS.nxt.keep kz2 (by simp)
   have hsb:=Blk.keep hS.sc kz2 (by have:=hsl;simp;omega)
   have hkb:=hS.keep.trans kz2 (fun x hx=>.inr (by simp at hx;omega))
   clear z0 z1 z2 z3 z4 n0 n1 n2 n3 n4 f0 f1 f2 f3 f4 kz2 hltr
   obtain⟨z0,z1,z2,z3,z4⟩:=ZC hz2
   obtain⟨n0,n1,n2,n3,n4⟩:=cells5 hnb
   refine hK _ _ (⟨z0,z1,z2,z3,z4,n0,n1,n2,n3,n4⟩) ?_
   clear hK K
   try simp only[Act.put,PU]
   refine JB ?_
   generalize (((((wa.setCell ⟨w.heap.size+1,0,none⟩ (.int .i64 0)).setCell ⟨w.heap.size+1,1,none⟩ (.int .i64 0)).setCell ⟨w.heap.size+1,2,none⟩ (.int .i64 0)).setCell ⟨w.heap.size+1,3,none⟩ (.slice none 0 0)).setCell ⟨w.heap.size+1,4,none⟩ (.slice none 0 0))=wb at *
   have f0:=hnb.frozen 0
   have f1:=hnb.frozen 1
   have f2:=hnb.frozen 2
   have f3:=hnb.frozen 3
   have f4:=hnb.frozen 4
   have hltn:=hnb.lt
   go_wp2_with fail
   obtain⟨hn3,kn3⟩:=KAJ hnb (.int .i64 0) (.int .i64 0) (.int .i64 0) (.int .i64 0) (.int .i64 0)
   obtain⟨y0,y1,y2,y3,y4⟩:=cells5 hn3
   obtain⟨x0,x1,x2,x3,x4⟩:=ZC (hz2.keep kn3 (by simp))
   exact bodyPost_ret (v:=.tuple #[.agg #[.int .i64 0,.int .i64 0,.int .i64 0,.slice none 0 0,.slice none 0 0],.agg #[.int .i64 0,.int .i64 0,.int .i64 0,.int .i64 0,.int .i64 0],.bool false])
    (by simp[results,Tryz.results340,go_sem,x0,x1,x2,x3,x4,y0,y1,y2,y3,y4]) rfl ⟨rfl,Blk.keep hsb kn3 (by have:=hsl;simp;omega),hkb.trans kn3 (fun x hx=>.inr (by simp at hx;omega))⟩
 · have hob:((off:Nat):Int)<24:=by omega
   replace hKo:=hKo ho
   go_wp2_with fail
   replace hS:=hS.keep0 (Keep.refl [] w2).drew
   clear p0 p1 p2 p3 p4 c1 hk2
   obtain⟨p0,p1,p2,p3,p4⟩:=cells5 hS.pos
   have c1:=hS.c1
   refine ZT (fun W=>W.cell? ⟨s,1,none⟩=some (.pointer (some ⟨g,0,none⟩))∧W.cell? ⟨w.heap.size,0,none⟩=some (.int .i64 sgp)∧W.cell? ⟨w.heap.size,1,none⟩=some (.int .i64 off)) 9 [[0,1,2,3,4,5,7,8],[6]] ⟨c1,p0,p1⟩ ?_
   simp only[PI]
   iterate 8 (refine ZH ?_;simp only[Act.put,PU])
   refine XB (by rfl) (fun K hK=>?_)
   go_wp2_with (refine(hSg _ hS.keep).mono ?_;rintro e w4 ⟨rfl,hk4⟩)
   replace hS:=hS.keep0 hk4
   clear p0 p1 p2 p3 p4 c1
   obtain⟨p0,p1,p2,p3,p4⟩:=cells5 hS.pos
   have c1:=hS.c1
   refine hK _ _ (⟨c1,p0,p1⟩) ?_
   clear hK K
   try simp only[Act.put,PU]
   refine JB ?_
   have hT:=QA HR _ hS.keep hS.sc ho
   go_wp2_with (refine hT.mono ?_;clear hT;rintro e w5 ⟨u,rfl,hu,hs5,hk5⟩;obtain⟨UA,uc,rfl,_⟩:=QB hu)
   replace hS:=hS.keepL hk5 hs5 (by simp)
   have hZ:=VAb UA uc _ w5 (Rd.of_own hu) hz
   go_wp2_with (refine hZ.mono ?_;clear hZ;rintro e w6 ⟨rfl,hk6⟩)
   replace hS:=(hS.keep0 hk6).keep0 (Keep.refl [] w6).drew
   refine ZT (fun _=>True) 17 [[0,1,2,3,4,5,6,7,8,9,10,11,12,13,14],[15,16]] trivial ?_
   simp only[PI]
   iterate 7 (refine ZH ?_;simp only[Act.put,PU])
   iterate 8 (refine YT (by rfl) ?_;simp only[Act.put,PU])
   refine QU (by rfl) trivial ?_
   simp only[Act.put,PU]
   iterate 1 (refine YT (by rfl) ?_;simp only[Act.put,PU])
   refine JB ?_
   go_wp2_with fail
   replace hS:=hS.keep0 (Keep.refl [] _).drew
   obtain⟨z0,z1,z2,z3,z4⟩:=ZC hS.rcd
   obtain⟨n0,n1,n2,n3,n4⟩:=cells5 hS.nxt
   refine ZT (fun W=>W.cell? ⟨w.heap.size+1,0,none⟩=some (.int .i64 0)∧W.cell? ⟨w.heap.size+1,1,none⟩=some (.int .i64 0)∧W.cell? ⟨w.heap.size+1,2,none⟩=some (.int .i64 0)∧W.cell? ⟨w.heap.size+1,3,none⟩=some (.slice none 0 0)∧W.cell? ⟨w.heap.size+1,4,none⟩=some (.slice none 0 0)∧W.cell? ⟨w.heap.size+1+1,0,none⟩=some (.int .i64 0)∧W.cell? ⟨w.heap.size+1+1,1,none⟩=some (.int .i64 0)∧W.cell? ⟨w.heap.size+1+1,2,none⟩=some (.int .i64 0)∧W.cell? ⟨w.heap.size+1+1,3,none⟩=some (.int .i64 0)∧W.cell? ⟨w.heap.size+1+1,4,none⟩=some (.int .i64 0)) 3 [[0,1],[2]] ⟨z0,z1,z2,z3,z4,n0,n1,n2,n3,n4⟩ ?_
   simp only[PI]
   iterate 2 (refine ZH ?_;simp only[Act.put,PU])
   refine XB (by rfl) (fun K hK=>?_)
   generalize w6.drew.drew=wa at *
   have hltr:=hS.rcd.lt
   have f0:=hS.rcd.frozen 0
   have f1:=hS.rcd.frozen 1
   have f2:=hS.rcd.frozen 2
   have f3:=hS.rcd.frozen 3
   have f4:=hS.rcd.frozen 4
   go_wp2_with fail
   obtain⟨hz2,kz2⟩:=KAJ hS.rcd (.int .i64 0) (.int .i64 0) (.int .i64 0) (.slice none 0 0) (.slice none 0 0)
   have hnb:=hS.nxt.keep kz2 (by simp)
   have hsb:=Blk.keep hS.sc kz2 (by have:=hsl;simp;omega)
   have hkb:=hS.keep.trans kz2 (fun x hx=>.inr (by simp at hx;omega))
   clear z0 z1 z2 z3 z4 n0 n1 n2 n3 n4 f0 f1 f2 f3 f4 kz2 hltr
   obtain⟨z0,z1,z2,z3,z4⟩:=ZC hz2
   obtain⟨n0,n1,n2,n3,n4⟩:=cells5 hnb
   refine hK _ _ (⟨z0,z1,z2,z3,z4,n0,n1,n2,n3,n4⟩) ?_
   clear hK K
   try simp only[Act.put,PU]
   refine JB ?_
   generalize (((((wa.setCell ⟨w.heap.size+1,0,none⟩ (.int .i64 0)).setCell ⟨w.heap.size+1,1,none⟩ (.int .i64 0)).setCell ⟨w.heap.size+1,2,none⟩ (.int .i64 0)).setCell ⟨w.heap.size+1,3,none⟩ (.slice none 0 0)).setCell ⟨w.heap.size+1,4,none⟩ (.slice none 0 0))=wb at *
   have f0:=hnb.frozen 0
   have f1:=hnb.frozen 1
   have f2:=hnb.frozen 2
   have f3:=hnb.frozen 3
   have f4:=hnb.frozen 4
   have hltn:=hnb.lt
   go_wp2_with fail
   obtain⟨hn3,kn3⟩:=KAJ hnb (.int .i64 0) (.int .i64 0) (.int .i64 0) (.int .i64 0) (.int .i64 0)
   obtain⟨y0,y1,y2,y3,y4⟩:=cells5 hn3
   obtain⟨x0,x1,x2,x3,x4⟩:=ZC (hz2.keep kn3 (by simp))
   exact bodyPost_ret (v:=.tuple #[.agg #[.int .i64 0,.int .i64 0,.int .i64 0,.slice none 0 0,.slice none 0 0],.agg #[.int .i64 0,.int .i64 0,.int .i64 0,.int .i64 0,.int .i64 0],.bool false])
    (by simp[results,Tryz.results340,go_sem,x0,x1,x2,x3,x4,y0,y1,y2,y3,y4]) rfl ⟨rfl,Blk.keep hsb kn3 (by have:=hsl;simp;omega),hkb.trans kn3 (fun x hx=>.inr (by simp at hx;omega))⟩
end
section
open Go.RowKit Go.Shelf
attribute [local go_sem] Oper.semAt_some
theorem KAC (w:World) (s d g B base sg:Nat) (q p:PPos) (R:PRec) (F:List Nat) (D:PDisk) (hs:XI w s d g sg q) (hg:GeomAt w g B) (h:DiskAt w base d F D) (hoff:D.off=false) (hn:D.n=198+4*pgs B) (hf:∀ k,k<D.n→D.faults[k]? = some false)
 (hp7:p.seg≤7) (ho24:p.off<24) (hL:Elder D (YB B p.seg+p.off) (24-p.off) p.lsn R) (hsF:s∉F) (hsg:s≠g) :
 Calls Tryz.prog 340 #[.pointer (some ⟨s,0,none⟩),.agg #[.int .i64 p.seg,.int .i64 p.off,.int .i64 p.lsn,.int .i64 p.prev,.int .i64 p.mount]] w fun e w'=>e=.returned (.tuple #[.agg #[.int .i64 0,.int .i64 0,.int .i64 0,.slice none 0 0,.slice none 0 0],.agg #[.int .i64 0,.int .i64 0,.int .i64 0,.int .i64 0,.int .i64 0],.bool false])∧XI w' s d g sg q∧Keep [s] w w':=by
 have hroom:p.off+(1+R.blocks.length)≤24:=by have:=hL.room;omega
 have hsl:=hs.lt
 have hpgs:=(KC hg.pos hg.few).2
 have hC:=fun W (hk:Keep [s] w W)=>ConfigG_is W g B (hg.keep hk (by simpa using fun e=>hsg e.symm))
 have hSg:∀ W,Keep [s] w W→Calls Tryz.prog 40 #[.pointer (some ⟨g,0,none⟩),.int .i64 p.seg] W fun e w'=>e=.returned (.int .i64 ((YB B p.seg:Nat)))∧Keep [] W w':=fun W hk=>VQ W g B (hg.keep hk (by simpa using fun e=>hsg e.symm)) p.seg hp7
 have hR:=fun W (hk:Keep [s] w W) (hS:XI W s d g sg q) k (hkn:k<1+R.blocks.length)=>VW W s d g sg base q F D hS (h.keep hk (fun x hx hm=>by simp at hm;subst hm;exact hsF hx)) hoff (YB B p.seg+p.off+k) (by unfold YB;omega) (hf _ (by unfold YB;omega))
 have hfd:=fun W=>VF (P:=Tryz.prog) Tryz.underlying27 2 rfl Tryz.isAgg3 #[.int .i64 B,.int .i64 8,.int .i64 24] rfl W
 obtain⟨sgp,off,lsn,prev,mount⟩:=p
 simp only at hL hroom ho24 hp7 hR
 have hls:¬ ((R.lsn:Nat):Int)=(lsn:Nat):=by have:=hL.lsn;omega
 obtain⟨a,ha⟩:∃ a,a=YB B sgp+off:=⟨_,rfl⟩
 obtain⟨K,hK⟩:∃ K,K=YB B sgp:=⟨_,rfl⟩
 have ha4:a≤4000:=by rw[ha];unfold YB;omega
 have HL:=ZB hL
 obtain⟨m,hm⟩:∃ m,m=R.blocks.length:=⟨_,rfl⟩
 have hm6:m≤6:=by rw[hm];exact Nat.le_trans hL.may.few6 hL.may.few
 have hor:off+(1+m)≤24:=by rw[hm];exact hroom
 have hlb:=PRec.length_bytes hL.may
 rw[← hm] at hR hlb
 have HR:=ZB hR
 have HM:=ZB hm
 obtain⟨bs,hbs⟩:∃ bs,bs=R.bytes:=⟨_,rfl⟩
 rw[← hbs] at hlb
 have hb0:∃ t,Go.Proofs.YthgphmfipnjllaaGreat.seg 64 bs 0=fields (JAH R.mount R.lsn R.prev R.items.length m)++t:=by
  obtain⟨t,ht⟩:=PRec.fields_is hL.may
  refine⟨(ZL R.items++t).take 48,?_⟩
  unfold Go.Proofs.YthgphmfipnjllaaGreat.seg
  rw[hbs,ht,← hm,Nat.zero_mul,List.drop_zero,List.take_append]
  have:(fields (JAH R.mount R.lsn R.prev R.items.length m)).length=16:=by simp[JAH,widths]
  rw[this,List.take_of_length_le (by omega)]
 have HB:=ZB hL.bytes
 rw[← hm,← hbs] at HB
 have HBS:=ZB hbs
 have hob:((off:Nat):Int)<24:=by omega
 have hKo:IntKind.i64.wrap (((K:Nat):Int)+(off:Nat))=(a:Nat):=by rw[IntKind.wrap_i64];omega
 simp only at hSg
 rw[← hK] at hSg
 have HA:=ZB ha
 have HK:=ZB hK
 have hS:=OneSt.start (p:=⟨sgp,off,lsn,prev,mount⟩) hs
 clear hL hR ha hK hs hm hbs
 go_enter Tryz.func340,Tryz.ntmps340
 go_wp2_with fail
 generalize (((w.alloc (.cells #[.int .i64 sgp,.int .i64 off,.int .i64 lsn,.int .i64 prev,.int .i64 mount] 72)).alloc (.cells #[.int .i64 0,.int .i64 0,.int .i64 0,.slice none 0 0,.slice none 0 0] 239)).alloc (.cells #[.int .i64 0,.int .i64 0,.int .i64 0,.int .i64 0,.int .i64 0] 72))=w1 at *
 replace hS:=hS.keep0 (Keep.refl [] w1).drew
 obtain⟨p0,p1,p2,p3,p4⟩:=cells5 hS.pos
 have c1:=hS.c1
 refine ZT (fun W=>W.cell? ⟨s,1,none⟩=some (.pointer (some ⟨g,0,none⟩))∧W.cell? ⟨w.heap.size,1,none⟩=some (.int .i64 off)) 8 [[0,1,2,3,4,5],[6,7]] ⟨c1,p1⟩ ?_
 simp only[PI]
 iterate 6 (refine ZH ?_;simp only[Act.put,PU])
 refine XB (by rfl) (fun K hK=>?_)
 go_wp2_with (refine(hC _ hS.keep).mono ?_;rintro e w2 ⟨rfl,hk2⟩)
 replace hS:=hS.keep0 hk2
 clear p0 p1 p2 p3 p4 c1
 obtain⟨p0,p1,p2,p3,p4⟩:=cells5 hS.pos
 have c1:=hS.c1
 refine hK _ _ (⟨c1,p1⟩) ?_
 clear hK K
 try simp only[Act.put,PU]
 iterate 1 (refine ZH ?_;simp only[Act.put,PU])
 refine JB ?_
 go_wp2_with fail
 replace hS:=hS.keep0 (Keep.refl [] w2).drew
 clear p0 p1 p2 p3 p4 c1 hk2
 obtain⟨p0,p1,p2,p3,p4⟩:=cells5 hS.pos
 have c1:=hS.c1
 refine ZT (fun W=>W.cell? ⟨s,1,none⟩=some (.pointer (some ⟨g,0,none⟩))∧W.cell? ⟨w.heap.size,0,none⟩=some (.int .i64 sgp)∧W.cell? ⟨w.heap.size,1,none⟩=some (.int .i64 off)) 9 [[0,1,2,3,4,5,7,8],[6]] ⟨c1,p0,p1⟩ ?_
 simp only[PI]
 iterate 8 (refine ZH ?_;simp only[Act.put,PU])
 refine XB (by rfl) (fun K hK=>?_)
 go_wp2_with (refine(hSg _ hS.keep).mono ?_;rintro e w4 ⟨rfl,hk4⟩)
 replace hS:=hS.keep0 hk4
 have hsz4:=hS.size
 clear p0 p1 p2 p3 p4 c1
 obtain⟨p0,p1,p2,p3,p4⟩:=cells5 hS.pos
 have c1:=hS.c1
 refine hK _ _ (⟨c1,p0,p1⟩) ?_
 clear hK K
 try simp only[Act.put,PU]
 refine JB ?_
 have hT:=QA HR _ hS.keep hS.sc 0 (by omega)
 simp only[Nat.add_zero] at hT
 rw[← QA HA] at hT
 have hbk:=QA HB 0 (by omega)
 rw[Nat.add_zero,← QA HA] at hbk
 rw[hbk] at hT
 obtain⟨t0,ht0⟩:=hb0
 go_wp2_with (refine hT.mono ?_;clear hT;rintro e w5 ⟨u,rfl,hu,hs5,hk5⟩;obtain⟨UA,uc,rfl,_⟩:=QB hu)
 replace hS:=hS.keepL hk5 hs5 (by simp)
 have hZ:=KAI UA uc _ t0 R.mount R.lsn R.prev R.items.length m w5 (Rd.of_own hu) ht0 (QA HL).may.some (QA HL).may.few (by have:=(QA HL).may.few6;have:=QA HM;omega)
 go_wp2_with (refine hZ.mono ?_;clear hZ;rintro e w6 ⟨rfl,hk6⟩)
 replace hS:=(hS.keep0 hk6).keep0 (Keep.refl [] w6).drew
 have hu6:=ZA (ZA hu hk6) (Keep.refl [] w6).drew
 clear p0 p1 p2 p3 p4 c1
 obtain⟨p0,p1,p2,p3,p4⟩:=cells5 hS.pos
 have c1:=hS.c1
 have hz0:¬ (1+((m:Nat):Int)=0):=by omega
 have hz1:decide (1+((m:Nat):Int)=0)=false:=decide_eq_false hz0
 refine ZT (fun W=>W.cell? ⟨s,1,none⟩=some (.pointer (some ⟨g,0,none⟩))∧W.cell? ⟨w.heap.size,1,none⟩=some (.int .i64 off)) 17 [[0,1,2,3,4,5,6,7,8,9,10,11,12,13,14],[15,16]] ⟨c1,p1⟩ ?_
 simp only[PI]
 iterate 4 (refine ZH ?_;simp only[Act.put,PU])
 refine KM (.bool false) (by rfl) (fun W hW=>by go_simp) ?_
 simp only[Act.put,PU]
 iterate 5 (refine ZH ?_;simp only[Act.put,PU])
 have hw6:IntKind.i64.wrap (((off:Nat):Int)+(1+(m:Nat)))=(off+(1+m):Nat):=by rw[IntKind.wrap_i64];omega
 refine KM (.int .i64 (off+(1+m):Nat)) (by rfl) (fun W hW=>by go_simp) ?_
 simp only[Act.put,PU]
 iterate 4 (refine ZH ?_;simp only[Act.put,PU])
 refine XB (by rfl) (fun K hK=>?_)
 go_wp2_with (refine(hC _ hS.keep).mono ?_;rintro e w7 ⟨rfl,hk7⟩)
 replace hS:=hS.keep0 hk7
 clear p0 p1 p2 p3 p4 c1
 obtain⟨p0,p1,p2,p3,p4⟩:=cells5 hS.pos
 have c1:=hS.c1
 refine hK _ _ (⟨c1,p1⟩) ?_
 clear hK K
 try simp only[Act.put,PU]
 iterate 1 (refine ZH ?_;simp only[Act.put,PU])
 refine JB ?_
 go_wp2_with fail
 have hu7:=VC (base':=w.heap.size+1+1+1) (ZA hu6 hk7) hsz4
 clear p0 p1 p2 p3 p4 c1 hk7 hk6 hk5 hu hu6 hs5 hbk ht0 hk4 hz0 hz1
 have hlm:64*(1+m)=bs.length:=hlb.symm
 have HLM:=ZB hlm
 clear hlm hlb
 have hu7':w7.ownsRow (w.heap.size+1+1+1) 5 1 (.slice UA 64 uc) 64 (bys (bs.take (64*1))):=by
  have:Go.Proofs.YthgphmfipnjllaaGreat.seg 64 bs 0=bs.take (64*1):=by simp[Go.Proofs.YthgphmfipnjllaaGreat.seg]
  rw[← this];exact hu7
 clear hu7
 go_loopw [8,10] (fun b i wr=>∃ (k z:Nat) (UA:Option Addr) (uc:Nat),1≤k∧k≤1+m∧Hid (z=64*k)∧b=.slice UA z uc∧i=.int .i64 k∧wr.ownsRow (w.heap.size+1+1+1) 5 1 (.slice UA z uc) z (bys (bs.take (64*k)))∧OneSt w s d g sg q ⟨sgp,off,lsn,prev,mount⟩ wr) (fun _ i _=>(1+m)-(intOf i).toNat)
 case atStart=>exact⟨1,64,UA,uc,Nat.le_refl _,by omega,rfl,rfl,rfl,hu7',hS⟩
 case round=>
  clear hu7' hS
  obtain⟨k,z,VA,vc,hk1,hkm,hz,rfl,rfl,hV,hS⟩:=hrel
  by_cases hlt:k<1+m
  · have hltI:((k:Nat):Int)<1+(m:Nat):=by omega
    obtain⟨y,hy⟩:∃ y,y=a+k:=⟨_,rfl⟩
    have hwy:IntKind.i64.wrap (((a:Nat):Int)+(k:Nat))=(y:Nat):=by rw[IntKind.wrap_i64];omega
    have hT:=QA HR wr hS.keep hS.sc k hlt
    have hbk:=QA HB k hlt
    rw[← QA HA,← hy] at hbk hT
    rw[hbk] at hT
    have hz64:z≤448:=by have:=QA hz;omega
    have hsl:(Go.Proofs.YthgphmfipnjllaaGreat.seg 64 bs k).length=64:=length_seg 64 bs k (by have:=QA HLM;omega)
    have htk:bs.take (64*(k+1))=bs.take (64*k)++Go.Proofs.YthgphmfipnjllaaGreat.seg 64 bs k:=by
     unfold Go.Proofs.YthgphmfipnjllaaGreat.seg
     rw[Nat.mul_comm k 64,show 64*(k+1)=64*k+64 by omega,List.take_add]
    have HTK:=ZB htk
    have hZ:=ZB (QA hz)
    clear hy hbk htk hsl hz
    go_wp2_with (first
     | (go_at_call 367
        refine hT.mono ?_
        clear hT
        rintro e w2 ⟨u,rfl,hu,hs2,hk2⟩
        obtain⟨XA,xc,rfl,_⟩:=QB hu
        have hS2:=hS.keepL hk2 hs2 (by simp)
        have hV2:=KA hV hk2 (fun x hx hm=>by simp at hm;subst hm;exact own_blk_ne hV hS.sc (by decide) hx)
        have hsz2:=hS2.size)
     | (at_builtin;refine elem8.wp_app rfl (.tmp 82) (.tmp 83) rfl (w.heap.size+1+1+1) (.slice VA z vc) z _ rfl hV2 XA 64 xc _ rfl (Rd.of_own hu) (fun u hu=>by obtain⟨q,_,rfl⟩:=List.mem_map.1 hu;rfl) (by omega) (by omega) (by omega) ?_;rintro v' w3 hv3 hk3 _ _))
    obtain⟨YA,yc,rfl,_⟩:=QB hv3
    go_roundw
    case rel=>
     have hge:∀ x∈(Value.slice VA z vc).ownBlock.toList,w.heap.size+1+1<x:=fun x hx=>(own_mem hV hx).1
     refine⟨k+1,z+64,YA,yc,by omega,by omega,by have:=QA hZ;simp only[Hid];omega,rfl,by go_num,?_,hS2.keepL hk3 (Blk.keep hS2.sc hk3 (fun hm=>own_blk_ne hV2 hS2.sc (by decide) (by simpa using hm))) (fun x hx=>.inr (hge x hx))⟩
     rw[QA HTK,VY]
     exact hv3
    case measure=>simp[intOf];omega
  · obtain rfl:k=1+m:=by omega
    obtain⟨gv,vc',he,hvc⟩:=ZG hV (by have:=QA hz;omega)
    cases he
    have hzm:=QA hz
    have hml:=QA HM
    have hV2:=hV
    rw[List.take_of_length_le (by rw[← QA HLM];exact Nat.le_refl _),QA HBS,hzm] at hV2
    have hDd:=YAf gv 0 vc R (QA HL).may wr ((VAI hV)) (by rw[← hml];exact Rd.of_own hV2) (by rw[← hml];omega)
    rw[← hml,← hzm] at hDd
    have HZM:=ZB hzm
    clear hzm hV2 hml hz
    go_wp2_with (
     refine hDd.mono ?_
     clear hDd
     rintro e w8 ⟨I,Bv,rfl,hRH,hk8⟩
     obtain⟨IA,ic,rfl,_⟩:=QB hRH.its
     obtain⟨BA,bl,bc,rfl⟩:∃ BA bl bc,Bv=.slice BA bl bc:=by obtain⟨ls,-,h2,-⟩:=hRH.bls;obtain⟨A,c,h,_⟩:=QB h2;exact⟨A,_,c,h⟩
     have hS8:=hS.keep0 hk8
     obtain⟨z0,z1,z2,z3,z4⟩:=ZC hS8.rcd
     obtain⟨p0,p1,p2,p3,p4⟩:=cells5 hS8.pos
     have f0:=hS8.rcd.frozen 0
     have f1:=hS8.rcd.frozen 1
     have f2:=hS8.rcd.frozen 2
     have f3:=hS8.rcd.frozen 3
     have f4:=hS8.rcd.frozen 4)
    obtain⟨hz1,kz1⟩:=KAJ hS8.rcd (.int .i64 (R.mount:Nat)) (.int .i64 (R.lsn:Nat)) (.int .i64 (R.prev:Nat)) (.slice IA R.items.length ic) (.slice BA bl bc)
    have hRH9:=hRH.keepB hS8.rcd (by decide) (by decide) (by decide) kz1
    have hp9:=hS8.pos.keep kz1 (by simp)
    have hn9:=hS8.nxt.keep kz1 (by simp)
    have hs9:=Blk.keep hS8.sc kz1 (by have:=hS8.lt;simp;omega)
    have hk9:=hS8.keep.trans kz1 (fun x hx=>.inr (by simp at hx;omega))
    have hsz8:w.heap.size+1+1<w8.heap.size:=hS8.size
    clear z0 z1 z2 z3 z4 p0 p1 p2 p3 p4 f0 f1 f2 f3 f4 hRH hk8 kz1
    generalize (((((w8.setCell ⟨w.heap.size+1,0,none⟩ (.int .i64 (R.mount:Nat))).setCell ⟨w.heap.size+1,1,none⟩ (.int .i64 (R.lsn:Nat))).setCell ⟨w.heap.size+1,2,none⟩ (.int .i64 (R.prev:Nat))).setCell ⟨w.heap.size+1,3,none⟩ (.slice IA R.items.length ic)).setCell ⟨w.heap.size+1,4,none⟩ (.slice BA bl bc))=w9 at *
    have hd:=(Keep.refl [] w9).drew
    obtain⟨n0,n1,n2,n3,n4⟩:=cells5 (hn9.keep0 hd)
    refine ZT (fun W=>W.cell? ⟨w.heap.size+1+1,0,none⟩=some (.int .i64 0)∧W.cell? ⟨w.heap.size+1+1,1,none⟩=some (.int .i64 0)∧W.cell? ⟨w.heap.size+1+1,2,none⟩=some (.int .i64 0)∧W.cell? ⟨w.heap.size+1+1,3,none⟩=some (.int .i64 0)∧W.cell? ⟨w.heap.size+1+1,4,none⟩=some (.int .i64 0)) 3 [[0,1],[2]] ⟨n0,n1,n2,n3,n4⟩ ?_
    simp only[PI]
    iterate 2 (refine ZH ?_;simp only[Act.put,PU])
    refine XB (by rfl) (fun K hK=>?_)
    replace hz1:=hz1.keep0 hd
    replace hn9:=hn9.keep0 hd
    replace hs9:=Blk.keep0 hs9 hd
    replace hk9:=hk9.trans0 hd
    clear hd hRH9 hp9
    generalize w9.drew=wa at *
    have hltr:=hz1.lt
    obtain⟨z0,z1,z2,z3,z4⟩:=ZC hz1
    have f0:=hz1.frozen 0
    have f1:=hz1.frozen 1
    have f2:=hz1.frozen 2
    have f3:=hz1.frozen 3
    have f4:=hz1.frozen 4
    go_wp2_with fail
    obtain⟨hz2,kz2⟩:=KAJ hz1 (.int .i64 0) (.int .i64 0) (.int .i64 0) (.slice none 0 0) (.slice none 0 0)
    have hnb:=hn9.keep kz2 (by simp)
    have hsb:=Blk.keep hs9 kz2 (by have:=hsl;simp;omega)
    have hkb:=hk9.trans kz2 (fun x hx=>.inr (by simp at hx;omega))
    clear n0 n1 n2 n3 n4 z0 z1 z2 z3 z4 f0 f1 f2 f3 f4 kz2 hltr
    obtain⟨n0,n1,n2,n3,n4⟩:=cells5 hnb
    refine hK _ _ (⟨n0,n1,n2,n3,n4⟩) ?_
    clear hK K
    try simp only[Act.put,PU]
    refine JB ?_
    generalize (((((wa.setCell ⟨w.heap.size+1,0,none⟩ (.int .i64 0)).setCell ⟨w.heap.size+1,1,none⟩ (.int .i64 0)).setCell ⟨w.heap.size+1,2,none⟩ (.int .i64 0)).setCell ⟨w.heap.size+1,3,none⟩ (.slice none 0 0)).setCell ⟨w.heap.size+1,4,none⟩ (.slice none 0 0))=wb at *
    have f0:=hnb.frozen 0
    have f1:=hnb.frozen 1
    have f2:=hnb.frozen 2
    have f3:=hnb.frozen 3
    have f4:=hnb.frozen 4
    have hltn:=hnb.lt
    go_wp2_with fail
    obtain⟨hn3,kn3⟩:=KAJ hnb (.int .i64 0) (.int .i64 0) (.int .i64 0) (.int .i64 0) (.int .i64 0)
    obtain⟨y0,y1,y2,y3,y4⟩:=cells5 hn3
    obtain⟨x0,x1,x2,x3,x4⟩:=ZC (hz2.keep kn3 (by simp))
    exact bodyPost_ret (v:=.tuple #[.agg #[.int .i64 0,.int .i64 0,.int .i64 0,.slice none 0 0,.slice none 0 0],.agg #[.int .i64 0,.int .i64 0,.int .i64 0,.int .i64 0,.int .i64 0],.bool false])
     (by simp[results,Tryz.results340,go_sem,x0,x1,x2,x3,x4,y0,y1,y2,y3,y4]) rfl ⟨rfl,Blk.keep hsb kn3 (by have:=hsl;simp;omega),hkb.trans kn3 (fun x hx=>.inr (by simp at hx;omega))⟩
theorem VAS (w:World) (s d g B base sg:Nat) (q p:PPos) (F:List Nat) (D:PDisk) (hs:XI w s d g sg q) (hg:GeomAt w g B) (h:DiskAt w base d F D) (hoff:D.off=false) (hn:D.n=198+4*pgs B) (hf:∀ k,k<D.n→D.faults[k]? = some false)
 (hp7:p.seg≤7) (hL:p.off=24∨p.off<24∧Stale D (YB B p.seg+p.off) (24-p.off) p.lsn) (hsF:s∉F) (hsg:s≠g) :
 Calls Tryz.prog 340 #[.pointer (some ⟨s,0,none⟩),.agg #[.int .i64 p.seg,.int .i64 p.off,.int .i64 p.lsn,.int .i64 p.prev,.int .i64 p.mount]] w fun e w'=>e=.returned (.tuple #[.agg #[.int .i64 0,.int .i64 0,.int .i64 0,.slice none 0 0,.slice none 0 0],.agg #[.int .i64 0,.int .i64 0,.int .i64 0,.int .i64 0,.int .i64 0],.bool false])∧XI w' s d g sg q∧Keep [s] w w':=by
 rcases hL with hL | ⟨ho,hL | ⟨R,hL⟩⟩
 · exact Kl w s d g B base sg q p F D hs hg h hoff hn hf hp7 (.inl hL) hsF hsg
 · exact Kl w s d g B base sg q p F D hs hg h hoff hn hf hp7 (.inr ⟨ho,hL⟩) hsF hsg
 · exact KAC w s d g B base sg q p R F D hs hg h hoff hn hf hp7 ho hL hsF hsg
end
section
open Go.RowKit
def ZM (B:Nat) (D:PDisk) (W:PW) (a:Nat):List UInt8:=
 if YB B W.pos.seg+KB W.pos.off 0≤a∧a<YB B W.pos.seg+KB W.pos.off 0+W.blocks.length then W.blocks.getD (a-(YB B W.pos.seg+KB W.pos.off 0)) [] else seg 64 D.now a
structure Lies (B:Nat) (us:List (Nat×Nat)) (W:PW) (a:Nat):Prop where
 lo:6+4*pgs B≤a
 hi:a<198+4*pgs B
 used:(us.getD ((a-(6+4*pgs B)) / 24) (0,0)).1≠0
 here:(a-(6+4*pgs B)) / 24=W.pos.seg→(YB B W.pos.seg+1≤a∧a<YB B W.pos.seg+W.pos.off)∨(YB B W.pos.seg+KB W.pos.off 0≤a∧a<YB B W.pos.seg+KB W.pos.off 0+W.blocks.length)
theorem Ks {B s a:Nat} (h1:YB B s≤a) (h2:a<YB B s+24):(a-(6+4*pgs B)) / 24=s:=by unfold YB at *;omega
theorem YR (D:PDisk) (k:Nat) (b:List UInt8) (hn:D.now.length=D.n*64) (hk:k<D.n) (hb:b.length=64) (x:Nat):seg 64 (D.write k b).now x=if x=k then b else seg 64 D.now x:=by
 have hle:(k+1)*64≤D.now.length:=by rw[hn];omega
 show seg 64 (laid D.now (k*64) b) x=_
 split
 · rename_i e
   subst e
   exact seg_laid_same 64 D.now b x hle hb
 · rename_i e
   exact seg_laid_other 64 D.now b k x hle hb e
theorem Xc (D:PDisk) (k:Nat) (b:List UInt8) (hn:D.now.length=D.n*64) (hk:k<D.n) (hb:b.length=64):(D.write k b).now.length=(D.write k b).n*64:=by
 show (laid D.now (k*64) b).length=D.n*64
 unfold laid
 simp
 omega
theorem Yc (D:PDisk) (a:Nat) (bs:List UInt8) (k:Nat) (hn:D.now.length=D.n*64) (hk:a+k≤D.n) (hb:64*k≤bs.length) :
 (YW D a bs k).now.length=(YW D a bs k).n*64∧∀ x,seg 64 (YW D a bs k).now x=if a≤x∧x<a+k then seg 64 bs (x-a) else seg 64 D.now x:=by
 induction k with
 | zero=>exact⟨hn,fun x=>by rw[if_neg (by omega)];rfl⟩
 | succ k ih=>
   obtain⟨h1,h2⟩:=ih (by omega) (by omega)
   have hs:=KJ D a bs k
   rw[Jc]
   have hl:(seg 64 bs k).length=64:=length_seg 64 bs k (by omega)
   refine⟨Xc _ _ _ h1 (by rw[hs.1];omega) hl,fun x=>?_⟩
   rw[YR _ _ _ h1 (by rw[hs.1];omega) hl,h2]
   by_cases e:x=a+k
   · subst e
     rw[if_pos rfl,if_pos (by omega)]
     congr 1;omega
   · rw[if_neg e]
     by_cases e2:a≤x∧x<a+k
     · rw[if_pos e2,if_pos (by omega)]
     · rw[if_neg e2,if_neg (by omega)]
theorem ZAE (bl:List (List UInt8)) (h:∀ b∈bl,b.length=64) (i:Nat) (hi:i<bl.length):seg 64 bl.flatten i=bl[i]:=by
 induction bl generalizing i with
 | nil=>simp at hi
 | cons b bl ih=>
   have hb:b.length=64:=h b (by simp)
   cases i with
   | zero=>simp[seg,List.take_append_of_le_length,hb,List.take_of_length_le]
   | succ i=>
     have:=ih (fun c hc=>h c (by simp[hc])) i (by simpa using hi)
     simp only[List.getElem_cons_succ]
     rw[← this]
     unfold seg
     rw[List.flatten_cons,List.drop_append]
     rw[List.drop_of_length_le (by omega),List.nil_append]
     congr 2
     omega
theorem JZ (bl:List (List UInt8)) (h:∀ b∈bl,b.length=64):bl.flatten.length=64*bl.length:=by
 induction bl with
 | nil=>rfl
 | cons b bl ih=>
   rw[List.flatten_cons,List.length_append,h b (by simp),ih (fun c hc=>h c (by simp[hc]))]
   simp;omega
theorem Emitted.reads {B:Nat} {D D':PDisk} {us us':List (Nat×Nat)} {W W':PW} (h:Emitted B D us W D' us' W') (ho:W.Ok) (hn:D.now.length=D.n*64) (hm:D.n=198+4*pgs B) (hs:W.pos.seg<8) (hof:W.pos.off≤23) :
 D'.now.length=D'.n*64∧∀ a,Lies B us W a→Lies B us' W' a∧ZM B D' W' a=ZM B D W a:=by
 rcases h with⟨h0,rfl,rfl,rfl⟩ | ⟨h0,D1,W1,rs,sum,hb,hr,hsu,rfl,rfl,rfl⟩
 · exact⟨hn,fun a ha=>⟨ha,rfl⟩⟩
 · obtain⟨e1,e2,e3,e4,e5,e6,e7,e8⟩:=hb.same
   have hrl:=hr.len
   have hfit:=ho.fit h0
   have hbl:=JZ W.blocks ho.full
   have hw1:W1.pos.off=max W.pos.off 1:=e4
   have hend:W1.pos.off+1+W.blocks.length≤23:=by unfold KB at hfit;omega
   have hD1:D1.now.length=D1.n*64∧D1.n=D.n∧∀ x,x≠YB B W.pos.seg∨0<W.pos.off→seg 64 D1.now x=seg 64 D.now x:=by
    rcases hb with⟨_,rfl,_⟩ | ⟨hz,x,hx,rfl,_⟩
    · exact⟨hn,rfl,fun _ _=>rfl⟩
    · have hk:YB B W.pos.seg<D.n:=by rw[hm];unfold YB;omega
      refine⟨Xc _ _ _ hn hk hx.len,rfl,fun y hy=>?_⟩
      rw[YR _ _ _ hn hk hx.len,if_neg (by omega)]
   obtain⟨d1,d2,d3⟩:=hD1
   have hL:=Yc D1 (YB B W.pos.seg+W1.pos.off) (rs++W.blocks.flatten) (1+W.blocks.length) d1 (by rw[d2,hm];unfold YB;omega) (by rw[List.length_append,hr.len,hbl];omega)
   refine⟨hL.1,fun a ha=>⟨⟨ha.lo,ha.hi,by rw[QG];exact ha.used,fun e=>?_⟩,?_⟩⟩
   · simp only at e ⊢
     left
     rcases ha.here e with h' | h' <;> (try unfold KB at h') <;> omega
   · unfold ZM
     simp only[List.length_nil]
     rw[if_neg (by omega),hL.2]
     by_cases hw:YB B W.pos.seg+KB W.pos.off 0≤a∧a<YB B W.pos.seg+KB W.pos.off 0+W.blocks.length
     · rw[if_pos hw]
       obtain⟨w1,w2⟩:=hw
       unfold KB at w1 w2
       rw[if_pos (by omega)]
       have hi:a-(YB B W.pos.seg+KB W.pos.off 0)<W.blocks.length:=by unfold KB;omega
       rw[List.getD_eq_getElem?_getD,List.getElem?_eq_getElem hi]
       simp only[Option.getD_some]
       rw[← ZAE W.blocks ho.full _ hi]
       have:a-(YB B W.pos.seg+W1.pos.off)=(a-(YB B W.pos.seg+KB W.pos.off 0))+1:=by unfold KB;omega
       rw[this]
       unfold seg
       rw[List.drop_append,List.drop_of_length_le (by omega),List.nil_append]
       congr 2
       omega
     · rw[if_neg hw]
       have hne:¬ (YB B W.pos.seg+W1.pos.off≤a∧a<YB B W.pos.seg+W1.pos.off+(1+W.blocks.length)):=by
        rintro⟨g1,g2⟩
        rcases ha.here (Ks (by omega) (by omega)) with h' | h'
        · omega
        · exact hw h'
       rw[if_neg hne]
       refine d3 a ?_
       by_cases hz:W.pos.off=0
       · left
         intro e
         rcases ha.here (Ks (by omega) (by omega)) with h' | h'
         · omega
         · exact hw h'
       · right;omega
theorem Turned.reads {B:Nat} {D D':PDisk} {us us':List (Nat×Nat)} {W W':PW} {s:Nat} (h:Turned B D us W s D' us' W') (hn:D.now.length=D.n*64) (hm:D.n=198+4*pgs B) (hs:W.pos.seg<8) (hof:W.pos.off≤23) (hof1:1≤W.pos.off) (hss:s<8) (hne:W.pos.seg≠s) (hul:us.length=8) (hb:W.blocks=[]) :
 D'.now.length=D'.n*64∧∀ a,Lies B us W a→(a-(6+4*pgs B)) / 24≠s→Lies B us' W' a∧ZM B D' W' a=ZM B D W a:=by
 obtain⟨rs,hd,sum,t1,t2,t3,rfl,rfl,rfl⟩:=h
 have t1l:=t1.len
 have t2l:=t2.len
 have hL:=Yc D (YB B W.pos.seg+W.pos.off) rs 1 hn (by rw[hm];unfold YB;omega) (by have:=t1.len;omega)
 have hls:=KJ D (YB B W.pos.seg+W.pos.off) rs 1
 have hk:YB B s<(YW D (YB B W.pos.seg+W.pos.off) rs 1).n:=by rw[hls.1,hm];unfold YB;omega
 refine⟨Xc _ _ _ hL.1 hk t2.len,fun a ha has=>⟨⟨ha.lo,ha.hi,?_,fun e=>absurd e has⟩,?_⟩⟩
 · rw[ZF _ _ _ _ (by simp;omega),QG]
   split
   · omega
   · exact ha.used
 · unfold ZM
   rw[hb]
   simp only[List.length_nil]
   rw[if_neg (by omega),if_neg (by omega),YR _ _ _ hL.1 hk t2.len,hL.2]
   rw[if_neg (fun e=>has (by subst e;exact Ks (Nat.le_refl _) (by omega)))]
   rw[if_neg]
   rintro⟨g1,g2⟩
   rcases ha.here (Ks (by omega) (by omega)) with h' | h'
   · omega
   · rw[hb] at h';simp at h';omega
end
section
open Go.RowKit
theorem Xf {B:Nat} {D:PDisk} {us:List (Nat×Nat)} {W:PW} (i:PItem) (bs:List UInt8) (hs:W.pos.seg<8) (hopn:(us.getD W.pos.seg (0,0)).1=1) (hf:VL W.pos.off (W.items.length+1) (W.blocks.length+ZV i)) :
 (∀ x,Lies B us W x→Lies B us ⟨W.pos,W.items++[i],if i.loaded then W.blocks++[bs] else W.blocks⟩ x∧ZM B D ⟨W.pos,W.items++[i],if i.loaded then W.blocks++[bs] else W.blocks⟩ x=ZM B D W x∧(i.loaded=true→x≠YB B W.pos.seg+KB W.pos.off 0+W.blocks.length)) ∧
 (i.loaded=true→Lies B us ⟨W.pos,W.items++[i],if i.loaded then W.blocks++[bs] else W.blocks⟩ (YB B W.pos.seg+KB W.pos.off 0+W.blocks.length) ∧
   ZM B D ⟨W.pos,W.items++[i],if i.loaded then W.blocks++[bs] else W.blocks⟩ (YB B W.pos.seg+KB W.pos.off 0+W.blocks.length)=bs):=by
 by_cases hl:i.loaded=true
 · simp only[hl,if_true]
   have hfit:=hf.2
   unfold ZV at hfit
   rw[if_pos hl] at hfit
   have hne:∀ x,Lies B us W x→x≠YB B W.pos.seg+KB W.pos.off 0+W.blocks.length:=by
    rintro x hx rfl
    rcases hx.here (Ks (by omega) (by unfold KB at hfit ⊢;omega)) with h' | h' <;> (try unfold KB at h') <;> omega
   refine⟨fun x hx=>⟨⟨hx.lo,hx.hi,hx.used,fun e=>?_⟩,?_,fun _=>hne x hx⟩,fun _=>⟨⟨?_,?_,?_,fun _=>.inr ⟨by dsimp only;omega,by simp⟩⟩,?_⟩⟩
   · simp only at e ⊢
     rcases hx.here e with h' | h'
     · exact .inl h'
     · exact .inr ⟨h'.1,by simp;omega⟩
   · have:=hne x hx
     unfold ZM
     simp only[List.length_append,List.length_singleton]
     by_cases h:YB B W.pos.seg+KB W.pos.off 0≤x∧x<YB B W.pos.seg+KB W.pos.off 0+W.blocks.length
     · rw[if_pos h,if_pos (by omega),List.getD_eq_getElem?_getD,List.getD_eq_getElem?_getD,List.getElem?_append_left (by omega)]
     · rw[if_neg h,if_neg (by omega)]
   · unfold YB KB;omega
   · unfold YB;unfold KB at hfit ⊢;omega
   · rw[Ks (s:=W.pos.seg) (by omega) (by unfold KB at hfit ⊢;omega),hopn];decide
   · unfold ZM
     simp only[List.length_append,List.length_singleton]
     rw[if_pos (by omega),List.getD_eq_getElem?_getD,List.getElem?_append_right (by omega)]
     rw[show YB B W.pos.seg+KB W.pos.off 0+W.blocks.length-(YB B W.pos.seg+KB W.pos.off 0)-W.blocks.length=0 by omega]
     rfl
 · simp only[Bool.not_eq_true] at hl
   simp only[hl,Bool.false_eq_true,if_false,false_implies,and_true]
   exact fun x hx=>⟨⟨hx.lo,hx.hi,hx.used,hx.here⟩,rfl⟩
theorem Added.reads {B:Nat} {D D':PDisk} {us us':List (Nat×Nat)} {lv lv':List Nat} {W W':PW} {k j a:Nat} {i:PItem} {bs:List UInt8} (hA:Added B D us lv W i bs D' us' lv' W' a) (h:Cap D us W k j) (hk:k≤50)
 (hn:D.now.length=D.n*64) (hm:D.n=198+4*pgs B) :
 D'.now.length=D'.n*64∧D'.n=D.n∧D'.faults=D.faults∧(∀ x,Lies B us W x→Lies B us' W' x∧ZM B D' W' x=ZM B D W x∧(i.loaded=true→x≠a))∧(i.loaded=true→Lies B us' W' a∧ZM B D' W' a=bs):=by
 obtain⟨W1,hR,rfl,ha⟩:=hA
 have hb1:ZV i≤1:=by unfold ZV;split <;> omega
 have hul:=h.ul
 have hsg:=h.seg
 have hae:i.loaded=true→a=YB B W1.pos.seg+KB W1.pos.off 0+W1.blocks.length:=fun hl=>by rw[ha,if_pos hl]
 rcases hR with⟨hf,rfl,rfl,rfl,rfl⟩ | ⟨hnf,hf,hE,rfl⟩ | ⟨hnf,hf,rfl,D1,us1,W2,hE,hT⟩
 · obtain⟨r1,r2⟩:=Xf (D:=D') i bs hsg h.opn hf
   refine⟨hn,rfl,rfl,fun x hx=>?_,fun hl=>by rw[hae hl];exact r2 hl⟩
   obtain⟨q1,q2,q3⟩:=r1 x hx
   exact⟨q1,q2,fun hl=>by rw[hae hl];exact q3 hl⟩
 · obtain⟨e1,e2,e3,e4,e5,e6,e7,e8,e9,e10,e11⟩:=h.emitted hE
   obtain⟨r1,r2⟩:=hE.reads h.ok hn hm hsg h.off
   obtain⟨_,_,_,_,_,_,_,_,_,_,_,f1,_,_,f4⟩:=hE.facts h.ok
   have hfit:VL W1.pos.off (W1.items.length+1) (W1.blocks.length+ZV i):=by
    rw[e8,e9]
    refine⟨by simp,?_⟩
    have:=hf.2
    simp only[List.length_nil,Nat.zero_add]
    unfold KB at this ⊢
    omega
   obtain⟨s1,s2⟩:=Xf (B:=B) (D:=D') i bs (by omega) e6 hfit
   refine⟨r1,f1,f4,fun x hx=>?_,fun hl=>by rw[hae hl];exact s2 hl⟩
   obtain⟨q1,q2⟩:=r2 x hx
   obtain⟨q3,q4,q5⟩:=s1 x q1
   exact⟨q3,q4.trans q2,fun hl=>by rw[hae hl];exact q5 hl⟩
 · have hfree:=h.free hk hb1 hf
   obtain⟨g1,g2⟩:=ZO us (by omega)
   have hne:W.pos.seg≠VB us:=by
    intro e
    have:=h.opn
    rw[e,g2] at this
    omega
   have hC:Cap D (VE us (VB us) 1) W (k+11) j:=by
    obtain⟨c,s,h1,h2,h3⟩:=h.cs
    refine⟨h.ok,by simpa using hul,hsg,h.off,?_,⟨c,s+1,by omega,h2,?_⟩,h.acts,h.lsn⟩
    · rw[ZF _ _ _ _ g1,if_neg hne];exact h.opn
    · have:=YM us (VB us) 1 g1
      rw[g2] at this
      simp at this
      omega
   obtain⟨e1,e2,e3,e4,e5,e6,e7,e8,e9,e10,e11⟩:=hC.emitted hE
   obtain⟨r1,r2⟩:=hE.reads hC.ok hn hm hsg h.off
   obtain⟨_,_,_,_,_,_,_,_,_,_,_,f1,_,_,f4⟩:=hE.facts h.ok
   have h22:22≤VU W:=by unfold VL KB at hf;omega
   have hT0:=hT
   obtain⟨t1,t2⟩:=hT.reads r1 (f1.trans hm) (by omega) e4 (by omega) (by omega) (by omega) e2 e9
   obtain⟨rs,hd,sum,u1,u2,u3,hD',hus,hW1⟩:=hT0
   have hls:=KJ D1 (YB B W2.pos.seg+W2.pos.off) rs 1
   have hfit:VL W1.pos.off (W1.items.length+1) (W1.blocks.length+ZV i):=by
    rw[hW1]
    simp only[e8,e9]
    unfold VL KB
    simp
    omega
   have hsg1:W1.pos.seg=VB us:=by rw[hW1]
   have hop1:(us'.getD W1.pos.seg (0,0)).1=1:=by
    rw[hsg1,hus,ZF _ _ _ _ (by simp;omega),e3,if_neg (fun e=>hne e.symm),QG]
    rcases hE.facts h.ok with⟨_,_,_,_,_,_,_,_,_,f10,_⟩
    rcases f10 with rfl | rfl
    · rw[ZF _ _ _ _ g1,if_pos rfl]
    · rw[QG,ZF _ _ _ _ g1,if_pos rfl]
   obtain⟨s1,s2⟩:=Xf (B:=B) (D:=D') i bs (by omega) hop1 hfit
   have hDn:D'.n=D.n:=by rw[hD'];exact hls.1.trans f1
   have hDf:D'.faults=D.faults:=by rw[hD'];exact hls.2.2.2.2.1.trans f4
   refine⟨t1,hDn,hDf,fun x hx=>?_,fun hl=>by rw[hae hl];exact s2 hl⟩
   have hxs:(x-(6+4*pgs B)) / 24≠VB us:=fun e=>hx.used (by rw[e];exact g2)
   have hx':Lies B (VE us (VB us) 1) W x:=⟨hx.lo,hx.hi,by rw[ZF _ _ _ _ g1,if_neg hxs];exact hx.used,hx.here⟩
   obtain⟨q1,q2⟩:=r2 x hx'
   obtain⟨q3,q4⟩:=t2 x q1 hxs
   obtain⟨q5,q6,q7⟩:=s1 x q3
   exact⟨q5,q6.trans (q4.trans q2),fun hl=>by rw[hae hl];exact q7 hl⟩
end
end Go.Proofs.YthgphmfipnjllaaGreat
