/- Lemmas of the proof, with their conditions. -/
import Derived.Test.YtkonbpfbjiepfaaGreatP16
import Derived.Test.YtkonbpfbjiepfaaGreatP26
import Derived.Test.YtkonbpfbjiepfaaGreatP05
namespace Go.Proofs.YtkonbpfbjiepfaaGreat
set_option linter.unusedSimpArgs false
set_option linter.unusedVariables false
set_option maxHeartbeats 4000000
set_option maxRecDepth 20000
section
open Go.RowKit
structure PagedIs (w:World) (base p:Nat) (L U:Value) (F:List Nat) (l:List Int) (ds:List Bool):Prop where
 blk:Blk w p 299 #[L,.int .i64 15,U]
 rl:w.ownsRow base 3 1 L l.length (JK l)
 rd:w.ownsRow base 4 1 U ds.length (ds.map .bool)
 foot:F=p :: (L.ownBlock.toList++U.ownBlock.toList)
 base:base≤p
 pos:1≤l.length
 few:l.length≤64
 pages:ds.length=pgs l.length
def PagedAt (w:World) (base p:Nat) (F:List Nat) (l:List Int) (ds:List Bool):Prop:=∃ L U,PagedIs w base p L U F l ds
namespace PagedIs
variable {w w':World} {base p:Nat} {L U:Value} {F k:List Nat} {l:List Int} {ds:List Bool}
theorem keep (h:PagedIs w base p L U F l ds) (hk:Keep k w w') (ha:Apart F k):PagedIs w' base p L U F l ds:=by
 have hf:=h.foot;exact⟨h.blk.keep hk (ha p (by simp[hf])),QB h.rl hk fun g hg=>ha g (by simp[hf,hg]),QB h.rd hk fun g hg=>ha g (by simp[hf,hg]),hf,h.base,h.pos,h.few,h.pages⟩
theorem keep0 (h:PagedIs w base p L U F l ds) (hk:Keep [] w w'):PagedIs w' base p L U F l ds:=h.keep hk Apart.nil_right
theorem lt (h:PagedIs w base p L U F l ds):∀ x∈F,x<w.heap.size:=by
 rw[h.foot];intro x hx;simp only[List.mem_cons,List.mem_append] at hx;rcases hx with rfl | hx | hx
 · exact h.blk.lt
 · exact(own_mem h.rl hx).2
 · exact(own_mem h.rd hx).2
theorem ge (h:PagedIs w base p L U F l ds):∀ x∈F,base≤x:=by
 rw[h.foot];intro x hx;simp only[List.mem_cons,List.mem_append] at hx;rcases hx with rfl | hx | hx
 · exact h.base
 · exact(own_mem h.rl hx).1
 · exact(own_mem h.rd hx).1
theorem forms (h:PagedIs w base p L U F l ds):∃ g c u uc,L=.slice (some ⟨g,0,none⟩) l.length c∧U=.slice (some ⟨u,0,none⟩) ds.length uc∧g≠u∧p≠g∧p≠u:=by
 have hp:=(QD h.pos h.few).1;have hpg:=h.pages;obtain⟨g,c,rfl,_⟩:=JE h.rl h.pos;obtain⟨u,uc,rfl,_⟩:=JE h.rd (by omega);exact⟨g,c,u,uc,rfl,rfl,fun e=>own_ne h.rl h.rd (by decide) rfl (by simp[Value.ownBlock,e]),fun e=>own_blk_ne h.rl h.blk (by decide) (by simp[Value.ownBlock,e]),fun e=>own_blk_ne h.rd h.blk (by decide) (by simp[Value.ownBlock,e])⟩
theorem cells (h:PagedIs w base p L U F l ds):w.cell? ⟨p,0,none⟩=some L∧w.cell? ⟨p,1,none⟩=some (.int .i64 15)∧w.cell? ⟨p,2,none⟩=some U:=
 ⟨by simpa using h.blk.cell 0,by simpa using h.blk.cell 1,by simpa using h.blk.cell 2⟩
end PagedIs
theorem Qi {w:World} {base p g c:Nat} {U:Value} {F:List Nat} {l:List Int} {ds:List Bool} (h:PagedIs w base p (.slice (some ⟨g,0,none⟩) l.length c) U F l ds) (i:Nat) (hi:i<l.length):w.cell? ⟨g,i,none⟩=some (.int .i64 l[i]):=
 JH h.rl (by simp[JK,i64,hi])
section
variable (w:World) (base p:Nat) (F:List Nat) (l:List Int) (ds:List Bool) (h:PagedAt w base p F l ds)
include h
theorem LenP_is:Calls Tryz.prog 199 #[.pointer (some ⟨p,0,none⟩)] w fun e w'=>e=.returned (.int .i64 (l.length:Nat))∧w=w':=by
 obtain⟨L,U,h⟩:=h;obtain⟨g,c,u,uc,rfl,rfl,_⟩:=h.forms;obtain⟨c0,c1,c2⟩:=h.cells
 go_enter Tryz.func199,Tryz.ntmps199
 go_wp2
 go_ret;exact⟨rfl,rfl⟩
theorem Kr (i:Nat) (hi:i<l.length):Calls Tryz.prog 124 #[.pointer (some ⟨p,0,none⟩),.int .i64 (i:Nat)] w fun e w'=>e=.returned (.tuple #[.int .i64 l[i],.bool true])∧w=w':=by
 have hT:=LenP_is w base p F l ds h;obtain⟨L,U,h⟩:=h;obtain⟨g,c,u,uc,rfl,rfl,_⟩:=h.forms;obtain⟨c0,c1,c2⟩:=h.cells;have hc:=Qi h i hi;have hiI:((i:Nat):Int)<(l.length:Nat):=by omega
 generalize l[i]=z at *
 go_enter Tryz.func124,Tryz.ntmps124
 go_wp2_with (refine hT.mono ?_;clear hT;rintro e w' ⟨rfl,rfl⟩)
 go_ret2;exact⟨rfl,rfl⟩
def YJ (l:List Int) (ds:List Bool) (i:Nat) (z:Int):List Bool:=if l.getD i 0=z then ds else ds.set (i / 15) true
omit h in
theorem Jr {l:List Int} {i:Nat} (h:i<l.length):l.getD i 0=l[i]:=by rw[List.getD_eq_getElem?_getD,List.getElem?_eq_getElem h];rfl
theorem XAn (i:Nat) (hi:i<l.length) (z:Int):Calls Tryz.prog 122 #[.pointer (some ⟨p,0,none⟩),.int .i64 (i:Nat),.int .i64 z] w fun e w'=>e=.returned (.bool true)∧PagedAt w' base p F (l.set i z) (YJ l ds i z)∧Keep F w w':=by
 have hT:=Kr w base p F l ds h i hi;obtain⟨L,U,h⟩:=h;obtain⟨g,c,u,uc,rfl,rfl,hgu,hpg,hpu⟩:=h.forms;obtain⟨c0,c1,c2⟩:=h.cells;have hc:=Qi h i hi;have hiI:((i:Nat):Int)<(l.length:Nat):=by omega
 have hg0:=Jr hi
 by_cases hz:l[i]=z
 · have he1:l.set i z=l:=by rw[← hz];exact List.set_getElem_self hi
   have he2:YJ l ds i z=ds:=by unfold YJ;rw[hg0,if_pos hz]
   rw[he1,he2];have hne:(l[i] != z)=false:=by simp[hz]
   clear hz he1 he2 hg0;generalize l[i]=y at *
   go_enter Tryz.func122,Tryz.ntmps122
   go_wp2_with (refine hT.mono ?_;clear hT;rintro e w' ⟨rfl,rfl⟩)
   go_ret;exact⟨rfl,⟨_,_,h⟩,(Keep.refl _ _)⟩
 · have he2:YJ l ds i z=ds.set (i / 15) true:=by unfold YJ;rw[hg0,if_neg hz]
   have hne:(l[i] != z)=true:=by simpa using hz
   have hfl:=YG h.rl i;have hpgs:=h.pages;have hd:i / 15<ds.length:=by rw[hpgs];unfold pgs;omega
   have hq:IntKind.i64.wrap (((i:Nat):Int) / 15)=(i / 15:Nat):=by
    have:=h.few;rw[IntKind.wrap_i64];omega
   obtain⟨q,hqd⟩:∃ q,q=i / 15:=⟨_,rfl⟩;rw[← hqd] at he2 hd hq;have hdI:((q:Nat):Int)<(ds.length:Nat):=by omega
   have hfd:=YG h.rd q;have hcd:w.cell? ⟨u,q,none⟩=some (.bool ds[q]):=JH h.rd (by simp[hd]);have hk1:Keep [g] w ((w.setCell ⟨g,i,none⟩ (.int .i64 z)).drew):=(Keep.refl _ _).drew.setCell (.inl (by simp)) _;have hl1:=KA (JT h.rl i (.int .i64 z)) (Keep.refl [] _).drew;have hd1:=QB h.rd hk1 (fun x hx=>by simp[Value.ownBlock] at hx;subst hx;simp;exact fun e=>hgu e.symm);have hb1:=h.blk.keep hk1 (by simpa using hpg);have hcd1:((w.setCell ⟨g,i,none⟩ (.int .i64 z)).drew).cell? ⟨u,q,none⟩=some (.bool ds[q]):=JH hd1 (by simp[hd]);have hfd1:=YG hd1 (q);have hk2:Keep [u] ((w.setCell ⟨g,i,none⟩ (.int .i64 z)).drew) ((w.setCell ⟨g,i,none⟩ (.int .i64 z)).drew.setCell ⟨u,q,none⟩ (.bool true)):=(Keep.refl _ _).setCell (.inl (by simp)) _;have hd2:=JT hd1 (q) (.bool true);have hl2:=QB hl1 hk2 (fun x hx=>by simp[Value.ownBlock] at hx;subst hx;simpa using hgu);have hb2:=hb1.keep hk2 (by simpa using hpu);rw[show (ds.map Value.bool).set (q) (.bool true)=(ds.set (q) true).map .bool by simp[List.map_set]] at hd2;rw[show (JK l).set i (.int .i64 z)=JK (l.set i z) by simp[JK,i64,List.map_set]] at hl2
   have hres:PagedIs ((w.setCell ⟨g,i,none⟩ (.int .i64 z)).drew.setCell ⟨u,q,none⟩ (.bool true)) base p (.slice (some ⟨g,0,none⟩) l.length c) (.slice (some ⟨u,0,none⟩) ds.length uc) F (l.set i z) (ds.set (q) true):=
    ⟨hb2,by rw[List.length_set];exact hl2,by rw[List.length_set];exact hd2,h.foot,h.base,by rw[List.length_set];exact h.pos,by rw[List.length_set];exact h.few,by rw[List.length_set,List.length_set];exact hpgs⟩
   rw[he2];have HF:=JB h.foot;clear hz hg0 hpgs he2 hqd;generalize l[i]=y at *;generalize ds[q]=x at *
   go_enter Tryz.func122,Tryz.ntmps122
   go_wp2_with (refine hT.mono ?_;clear hT;rintro e w' ⟨rfl,rfl⟩)
   refine ZT (fun w'=>w'.cell? ⟨p,0,none⟩=some (.slice (some ⟨g,0,none⟩) l.length c)∧w'.cell? ⟨p,1,none⟩=some (.int .i64 15)∧w'.cell? ⟨p,2,none⟩=some (.slice (some ⟨u,0,none⟩) ds.length uc)) 18 [[0,1,2,3,4,5,6,7,8,9,10,11,12,13,14,15,16],[17]] ⟨c0,c1,c2⟩ ?_;simp only[PI]
   iterate 17 (refine ZH ?_;simp only[Act.put,PU])
   refine XB (by rfl) (fun K hK=>?_)
   go_wp2_with fail
   refine hK _ _ (⟨by simpa using hb1.cell 0,by simpa using hb1.cell 1,by simpa using hb1.cell 2⟩) ?_;clear hK K
   try simp only[Act.put,PU]
   refine YB ?_
   go_wp2_with fail
   go_ret;have hF:=XA HF;exact⟨rfl,⟨_,_,hres⟩,(hk1.sub (m:=F) (by rw[hF];simp[Value.ownBlock])).trans (hk2.sub (m:=F) (by rw[hF];simp[Value.ownBlock])) (fun x hx=>.inl hx)⟩
end
end
section
open Go.RowKit
theorem Zp {w W:World} {n P:Nat} {z:Int} {u:Value} {g3 base':Nat} (h0:1≤n) (hn:n≤64) (hP:pgs n=P) (hu:W.ownsRow base' 3 1 u n (List.replicate n (.int .i64 z))) (hb':w.heap.size≤base') (hb:Blk W g3 4 (madeCells (Value.bool false).cells (P*1))) (hg:w.heap.size≤g3) (hk:Keep [] w W) :
 PagedAt (W.alloc (.cells #[u,.int .i64 15,.slice (some ⟨g3,0,none⟩) P P] 299)) w.heap.size W.heap.size (W.heap.size :: (u.ownBlock.toList++(Value.slice (some ⟨g3,0,none⟩) P P).ownBlock.toList)) (List.replicate n z) (List.replicate P false)∧Keep [] w (W.alloc (.cells #[u,.int .i64 15,.slice (some ⟨g3,0,none⟩) P P] 299)):=by
 have hPb:P≤64:=by rw[← hP];unfold pgs;omega
 refine⟨⟨_,_,Blk.new _ _ _,XD ?_ _,XD ?_ _,rfl,hk.size,by simpa using h0,by simpa using hn,by simp[hP]⟩,hk.alloc _⟩
 · rw[List.length_replicate,show JK (List.replicate n z)=List.replicate n (.int .i64 z) by simp[JK,i64]]
   exact ZC hu hb'
 · rw[List.length_replicate]
   exact YN (e:=4) (s:=1) (z:=.bool false) hb (by omega) hg (by omega) (by simp) rfl
theorem YAk (n:Nat) (z:Int) (h0:1≤n) (hn:n≤64) (w:World) :
 Calls Tryz.prog 181 #[.int .i64 (n:Nat),.int .i64 15,.int .i64 z] w fun e w'=>∃ p F,e=.returned (.pointer (some ⟨p,0,none⟩))∧PagedAt w' w.heap.size p F (List.replicate n z) (List.replicate (pgs n) false)∧Keep [] w w':=by
 have hI:(1:Int)≤(n:Nat):=by omega
 have hI2:((n:Nat):Int)≤64:=by omega
 have hw1:IntKind.i64.wrap (((n:Nat):Int)+15)=(n:Nat)+15:=by rw[IntKind.wrap_i64];omega
 have hw2:IntKind.i64.wrap (((n:Nat):Int)+15-1)=(n:Nat)+15-1:=by rw[IntKind.wrap_i64];omega
 have hq:IntKind.i64.wrap ((((n:Nat):Int)+15-1).tdiv 15)=(pgs n:Nat):=by unfold pgs;rw[Int.tdiv_eq_ediv_of_nonneg (by omega),IntKind.wrap_i64];omega
 have hpb:pgs n≤5:=by unfold pgs;omega
 have hp1:1≤pgs n:=by unfold pgs;omega
 have hR:=fun A c W (ha:Rd W A 1 [.int .i64 z])=>Yj A c z n h0 (by omega) W ha
 go_enter Tryz.func181,Tryz.ntmps181
 go_wp2_with fail
 generalize hP:pgs n=P at *;have HP:=JB hP;clear hP;refine ZR (fun w'=>Keep [] w w') 12 (.held 0 (.held 2 (.held 4 (.held 5 (.held 6 (.held 7 (.held 8 (.held 9 (.held 10 (.two 1 (.two 3 (.loud 11 .nil) 11 (.loud 3 .nil)) 11 (.loud 1 (.loud 3 .nil)))))))))))) (Keep.refl _ _).drew ?_;simp only[RT.pick,PJ]
 iterate 9 (refine ZK ?_;simp only[Act.put,PU])
 refine wpR_two ?_ ?_
 · refine wpR_loud (by rfl) (fun K hK=>?_)
   go_wp2_with fail
   have hb1:=(Blk.new w 3 #[.int .i64 z]).drew;have hk1:Keep [] w (w.alloc (.cells #[.int .i64 z] 3)).drew:=((Keep.refl _ _).alloc _).drew;have hrd1:=Rd.of_blk hb1 (n:=1) (by simp);generalize (w.alloc (.cells #[.int .i64 z] 3)).drew=w1 at *;refine hK _ _ (hk1) ?_;clear hK K
   try simp only[Act.put,PU]
   refine wpR_two ?_ ?_
   · refine wpR_loud (by rfl) (fun K hK=>?_)
     go_wp2_with (refine(hR _ _ _ hrd1).mono ?_;rintro e w2 ⟨u,rfl,hu,hk2⟩)
     refine hK _ _ (hk1.trans0 hk2) ?_;clear hK K
     try simp only[Act.put,PU]
     refine wpR_loud (by rfl) (fun K hK=>?_);refine elemBool.wp1_make _ _ rfl .i64 .i64 P rfl rfl (by omega) (by omega) ?_;intro w3 g3 hg3 hs3 hb3 hk3;refine hK _ _ ((hk1.trans0 hk2).trans0 hk3) ?_;clear hK K
     try simp only[Act.put,PU]
     refine wpR_nil ?_;have hs1:=hk1.size;have hs2:=hk2.size;have hu':=KA hu hk3;have hw:Keep [] w w3:=(hk1.trans0 hk2).trans0 hk3;have hR:=Zp (w:=w) h0 hn (XA HP) hu' hs1 hb3 (by rw[hg3];omega) hw;obtain⟨UA,uc,rfl,_⟩:=ZB hu';clear hg3 hs3 hs1 hs2 hk1 hk2 hk3
     go_wp2_with fail
     go_ret;exact⟨_,_,rfl,by rw[XA HP];exact hR⟩
   · refine wpR_loud (by rfl) (fun K hK=>?_)
     refine elemBool.wp1_make _ _ rfl .i64 .i64 P rfl rfl (by omega) (by omega) ?_;intro w3 g3 hg3 hs3 hb3 hk3;have hge:w.heap.size≤g3:=by rw[hg3];exact hk1.size
     clear hg3 hs3;refine hK _ _ (hk1.trans0 hk3) ?_;clear hK K
     try simp only[Act.put,PU]
     refine wpR_loud (by rfl) (fun K hK=>?_)
     go_wp2_with (refine(hR _ _ _ (hrd1.keep hk3)).mono ?_;rintro e w2 ⟨u,rfl,hu,hk2⟩)
     refine hK _ _ ((hk1.trans0 hk3).trans0 hk2) ?_;clear hK K
     try simp only[Act.put,PU]
     refine wpR_nil ?_;have hs1:=hk1.size;have hs3':=hk3.size;have hw:Keep [] w w2:=(hk1.trans0 hk3).trans0 hk2;have hR:=Zp (w:=w) h0 hn (XA HP) hu (Nat.le_trans hs1 hs3') (hb3.keep0 hk2) hge hw;obtain⟨UA,uc,rfl,_⟩:=ZB hu;clear hs1 hs3' hk1 hk2 hk3
     go_wp2_with fail
     go_ret;exact⟨_,_,rfl,by rw[XA HP];exact hR⟩
 · refine wpR_loud (by rfl) (fun K hK=>?_)
   refine elemBool.wp1_make _ _ rfl .i64 .i64 P rfl rfl (by omega) (by omega) ?_;intro w3 g3 hg3 hs3 hb3 hk3;replace hk3:Keep [] w w3:=(Keep.refl _ _).drew.trans0 hk3;have hge:w.heap.size≤g3:=by rw[hg3];exact Nat.le_refl _
   clear hg3 hs3;refine hK _ _ (hk3) ?_;clear hK K
   try simp only[Act.put,PU]
   refine wpR_loud (by rfl) (fun K hK=>?_)
   go_wp2_with fail
   have hb1:=Blk.new w3 3 #[.int .i64 z];have hk1:Keep [] w3 (w3.alloc (.cells #[.int .i64 z] 3)):=(Keep.refl _ _).alloc _;have hrd1:=Rd.of_blk hb1 (n:=1) (by simp);generalize w3.alloc (.cells #[.int .i64 z] 3)=w1 at *;refine hK _ _ (hk3.trans0 hk1) ?_;clear hK K
   try simp only[Act.put,PU]
   refine wpR_loud (by rfl) (fun K hK=>?_)
   go_wp2_with (refine(hR _ _ _ hrd1).mono ?_;rintro e w2 ⟨u,rfl,hu,hk2⟩)
   refine hK _ _ ((hk3.trans0 hk1).trans0 hk2) ?_;clear hK K
   try simp only[Act.put,PU]
   refine wpR_nil ?_;have hs1:=hk1.size;have hs4:=hk3.size;have hw:Keep [] w w2:=(hk3.trans0 hk1).trans0 hk2;have hR:=Zp (w:=w) h0 hn (XA HP) hu (Nat.le_trans hs4 hs1) ((hb3.keep0 hk1).keep0 hk2) hge hw;obtain⟨UA,uc,rfl,_⟩:=ZB hu;clear hs1 hs4 hk1 hk2 hk3
   go_wp2_with fail
   go_ret;exact⟨_,_,rfl,by rw[XA HP];exact hR⟩
end
section
open Go.RowKit
structure PImage where
 bl:List Int
 bd:List Bool
 ol:List Int
 od:List Bool
def PImage.Ok (I:PImage):Prop:=I.bl.length=I.ol.length∧(∀ x∈I.bl,0≤x∧x<4096)∧(∀ x∈I.ol,-1≤x∧x<4096)
structure ImageIs (w:World) (base m p1 p2:Nat) (F F1 F2:List Nat) (I:PImage):Prop where
 blk:Blk w m 202 #[.pointer (some ⟨p1,0,none⟩),.pointer (some ⟨p2,0,none⟩)]
 b:PagedAt w base p1 F1 I.bl I.bd
 o:PagedAt w base p2 F2 I.ol I.od
 apart:Apart F1 F2
 m1:m∉F1
 m2:m∉F2
 foot:F=m :: (F1++F2)
 base:base≤m
 ok:I.Ok
def ImageAt (w:World) (base m:Nat) (F:List Nat) (I:PImage):Prop:=∃ p1 p2 F1 F2,ImageIs w base m p1 p2 F F1 F2 I
namespace PagedAt
variable {w w':World} {base p:Nat} {F k:List Nat} {l:List Int} {ds:List Bool}
theorem keep (h:PagedAt w base p F l ds) (hk:Keep k w w') (ha:Apart F k):PagedAt w' base p F l ds:=by obtain⟨L,U,h⟩:=h;exact⟨L,U,h.keep hk ha⟩
theorem keep0 (h:PagedAt w base p F l ds) (hk:Keep [] w w'):PagedAt w' base p F l ds:=h.keep hk Apart.nil_right
theorem lt (h:PagedAt w base p F l ds):∀ x∈F,x<w.heap.size:=by obtain⟨L,U,h⟩:=h;exact h.lt
theorem ge (h:PagedAt w base p F l ds):∀ x∈F,base≤x:=by obtain⟨L,U,h⟩:=h;exact h.ge
theorem few (h:PagedAt w base p F l ds):1≤l.length∧l.length≤64:=by obtain⟨L,U,h⟩:=h;exact⟨h.pos,h.few⟩
end PagedAt
namespace ImageIs
variable {w w':World} {base m p1 p2:Nat} {F F1 F2 k:List Nat} {I:PImage}
theorem keep (h:ImageIs w base m p1 p2 F F1 F2 I) (hk:Keep k w w') (ha:Apart F k):ImageIs w' base m p1 p2 F F1 F2 I:=by
 have hf:=h.foot;exact⟨h.blk.keep hk (ha m (by simp[hf])),h.b.keep hk (fun x hx=>ha x (by simp[hf,hx])),h.o.keep hk (fun x hx=>ha x (by simp[hf,hx])),h.apart,h.m1,h.m2,hf,h.base,h.ok⟩
theorem keep0 (h:ImageIs w base m p1 p2 F F1 F2 I) (hk:Keep [] w w'):ImageIs w' base m p1 p2 F F1 F2 I:=h.keep hk Apart.nil_right
theorem lt (h:ImageIs w base m p1 p2 F F1 F2 I):∀ x∈F,x<w.heap.size:=by
 rw[h.foot];intro x hx;simp only[List.mem_cons,List.mem_append] at hx;rcases hx with rfl | hx | hx
 · exact h.blk.lt
 · exact h.b.lt x hx
 · exact h.o.lt x hx
theorem ge (h:ImageIs w base m p1 p2 F F1 F2 I):∀ x∈F,base≤x:=by
 rw[h.foot];intro x hx;simp only[List.mem_cons,List.mem_append] at hx;rcases hx with rfl | hx | hx
 · exact h.base
 · exact h.b.ge x hx
 · exact h.o.ge x hx
theorem cells (h:ImageIs w base m p1 p2 F F1 F2 I):w.cell? ⟨m,0,none⟩=some (.pointer (some ⟨p1,0,none⟩))∧w.cell? ⟨m,1,none⟩=some (.pointer (some ⟨p2,0,none⟩)):=
 ⟨by simpa using h.blk.cell 0,by simpa using h.blk.cell 1⟩
theorem setB (h:ImageIs w base m p1 p2 F F1 F2 I) {l:List Int} {ds:List Bool} (hb:PagedAt w' base p1 F1 l ds) (hk:Keep F1 w w') (hl:l.length=I.bl.length) (hr:∀ x∈l,0≤x∧x<4096):ImageIs w' base m p1 p2 F F1 F2 { I with bl:=l,bd:=ds }:=
 ⟨h.blk.keep hk h.m1,hb,h.o.keep hk h.apart.symm,h.apart,h.m1,h.m2,h.foot,h.base,⟨hl.trans h.ok.1,hr,h.ok.2.2⟩⟩
theorem setO (h:ImageIs w base m p1 p2 F F1 F2 I) {l:List Int} {ds:List Bool} (hb:PagedAt w' base p2 F2 l ds) (hk:Keep F2 w w') (hl:l.length=I.ol.length) (hr:∀ x∈l,-1≤x∧x<4096):ImageIs w' base m p1 p2 F F1 F2 { I with ol:=l,od:=ds }:=
 ⟨h.blk.keep hk h.m2,h.b.keep hk h.apart,hb,h.apart,h.m1,h.m2,h.foot,h.base,⟨h.ok.1.trans hl.symm,h.ok.2.1,hr⟩⟩
theorem subB (h:ImageIs w base m p1 p2 F F1 F2 I):∀ x∈F1,x∈F:=fun x hx=>by rw[h.foot];simp[hx]
theorem subO (h:ImageIs w base m p1 p2 F F1 F2 I):∀ x∈F2,x∈F:=fun x hx=>by rw[h.foot];simp[hx]
end ImageIs
namespace ImageAt
variable {w w':World} {base m:Nat} {F k:List Nat} {I:PImage}
theorem keep (h:ImageAt w base m F I) (hk:Keep k w w') (ha:Apart F k):ImageAt w' base m F I:=by obtain⟨p1,p2,F1,F2,h⟩:=h;exact⟨p1,p2,F1,F2,h.keep hk ha⟩
theorem keep0 (h:ImageAt w base m F I) (hk:Keep [] w w'):ImageAt w' base m F I:=h.keep hk Apart.nil_right
theorem lt (h:ImageAt w base m F I):∀ x∈F,x<w.heap.size:=by obtain⟨p1,p2,F1,F2,h⟩:=h;exact h.lt
theorem ge (h:ImageAt w base m F I):∀ x∈F,base≤x:=by obtain⟨p1,p2,F1,F2,h⟩:=h;exact h.ge
theorem ok (h:ImageAt w base m F I):I.Ok:=by obtain⟨p1,p2,F1,F2,h⟩:=h;exact h.ok
theorem few (h:ImageAt w base m F I):1≤I.bl.length∧I.bl.length≤64:=by obtain⟨p1,p2,F1,F2,h⟩:=h;exact h.b.few
end ImageAt
section
variable (w:World) (base m p1 p2:Nat) (F F1 F2:List Nat) (I:PImage) (h:ImageIs w base m p1 p2 F F1 F2 I)
include h
theorem XL (over:Bool):Calls Tryz.prog 119 #[.pointer (some ⟨m,0,none⟩),.bool over] w fun e w'=>e=.returned (.pointer (some ⟨if over then p2 else p1,0,none⟩))∧w=w':=by
 obtain⟨c0,c1⟩:=h.cells;cases over
 all_goals
  go_enter Tryz.func119,Tryz.ntmps119
  go_wp2
  go_ret;exact⟨rfl,rfl⟩
theorem BlocksI_is:Calls Tryz.prog 111 #[.pointer (some ⟨m,0,none⟩)] w fun e w'=>e=.returned (.int .i64 (I.bl.length:Nat))∧w=w':=by
 have hT:=XL w base m p1 p2 F F1 F2 I h false;have hL:=LenP_is w base p1 F1 I.bl I.bd h.b
 go_enter Tryz.func111,Tryz.ntmps111
 go_wp2_with (first | (go_at_call 119;refine hT.mono ?_;rintro e w' ⟨rfl,rfl⟩) | (go_at_call 199;refine hL.mono ?_;rintro e w' ⟨rfl,rfl⟩))
 go_ret;exact⟨rfl,rfl⟩
theorem VAA (b n:Nat) (hn:1≤n) (hb:b+n≤I.bl.length):Calls Tryz.prog 125 #[.pointer (some ⟨m,0,none⟩),.int .i64 (b:Nat),.int .i64 (n:Nat)] w fun e w'=>e=.returned (.bool true)∧w=w':=by
 have hL:=BlocksI_is w base m p1 p2 F F1 F2 I h;have hf:=h.b.few.2;have q1:(1:Int)≤(n:Nat):=by omega
 have q2:((n:Nat):Int)≤(I.bl.length:Nat):=by omega
 have q3:((b:Nat):Int)≤(I.bl.length:Nat)-(n:Nat):=by omega
 generalize I.bl.length=k at *
 go_enter Tryz.func125,Tryz.ntmps125
 go_wp2_with (refine hL.mono ?_;rintro e w' ⟨rfl,rfl⟩)
 go_ret;exact⟨rfl,rfl⟩
end
def XE (was z:Int):Int:=if was=z then 0 else max was 0
theorem Xt (w:World) (base p:Nat) (F:List Nat) (l:List Int) (ds:List Bool) (h:PagedAt w base p F l ds) (i:Nat) (hi:i<l.length) (z:Int) :
 Calls Tryz.prog 121 #[.pointer (some ⟨p,0,none⟩),.int .i64 (i:Nat),.int .i64 z] w fun e w'=>e=.returned (.int .i64 (XE l[i] z))∧PagedAt w' base p F (l.set i z) (YJ l ds i z)∧Keep F w w':=by
 have hG:=Kr w base p F l ds h i hi;have hS:=XAn w base p F l ds h i hi z
 by_cases hz:l[i]=z
 · have hne:(l[i] == z)=true:=by simp[hz]
   have he:XE l[i] z=0:=by unfold XE;rw[if_pos hz]
   rw[he];clear hz he;generalize l[i]=y at *
   go_enter Tryz.func121,Tryz.ntmps121
   go_wp2_with (first | (go_at_call 124;refine hG.mono ?_;rintro e w' ⟨rfl,rfl⟩) | (go_at_call 122;refine hS.mono ?_;rintro e w1 ⟨rfl,h1,hk1⟩))
   go_ret;exact⟨rfl,h1,hk1⟩
 · have hne:(l[i] == z)=false:=by simpa using hz
   have he:XE l[i] z=max l[i] 0:=by unfold XE;rw[if_neg hz]
   rw[he];clear hz he;generalize l[i]=y at *
   go_enter Tryz.func121,Tryz.ntmps121
   go_wp2_with (first | (go_at_call 124;refine hG.mono ?_;rintro e w' ⟨rfl,rfl⟩) | (go_at_call 122;refine hS.mono ?_;rintro e w1 ⟨rfl,h1,hk1⟩))
   all_goals
    go_ret;exact⟨XN (by omega),h1,hk1⟩
theorem XBM (w:World) (base m p1 p2:Nat) (F F1 F2:List Nat) (I:PImage) (h:ImageIs w base m p1 p2 F F1 F2 I) (b a:Nat) (hb:b<I.ol.length) (ha:1≤a∧a<4096) :
 Calls Tryz.prog 59 #[.pointer (some ⟨m,0,none⟩),.bool true,.int .i64 (b:Nat),.int .i64 (a:Nat)] w fun e w'=>e=.returned (.tuple #[.int .i64 (XE I.ol[b] a),.bool true])∧PagedAt w' base p2 F2 (I.ol.set b a) (YJ I.ol I.od b a)∧Keep F2 w w':=by
 have hH:=VAA w base m p1 p2 F F1 F2 I h b 1 (Nat.le_refl _) (by rw[h.ok.1];exact hb);have hT:=XL w base m p1 p2 F F1 F2 I h true;have hS:=Xt w base p2 F2 I.ol I.od h.o b hb a;obtain⟨ha1,ha2⟩:=ha;have q1:(1:Int)≤(a:Nat):=by omega
 have q2:((a:Nat):Int)<4096:=by omega
 generalize XE I.ol[b] a=y at *
 go_enter Tryz.func59,Tryz.ntmps59
 go_wp2_with (first | (go_at_call 125;refine hH.mono ?_;rintro e w' ⟨rfl,rfl⟩) | (go_at_call 119;refine hT.mono ?_;rintro e w' ⟨rfl,rfl⟩) | (go_at_call 121;refine hS.mono ?_;rintro e w1 ⟨rfl,h1,hk1⟩))
 go_ret2;exact⟨rfl,h1,hk1⟩
theorem JAl (w:World) (base m:Nat) (F:List Nat) (I:PImage) (h:ImageAt w base m F I) (b a:Nat) (hb:b<I.bl.length) (ha:1≤a∧a<4096) :
 Calls Tryz.prog 54 #[.pointer (some ⟨m,0,none⟩),.int .i64 (b:Nat),.int .i64 (a:Nat)] w fun e w'=>e=.returned (.tuple #[.int .i64 (XE (I.ol.getD b 0) a),.bool true])∧ImageAt w' base m F { I with ol:=I.ol.set b a,od:=YJ I.ol I.od b a }∧Keep F w w':=by
 obtain⟨p1,p2,F1,F2,h⟩:=h;have hbo:b<I.ol.length:=by rw[← h.ok.1];exact hb
 have hO:=XBM w base m p1 p2 F F1 F2 I h b a hbo ha;rw[Jr hbo];generalize XE I.ol[b] a=y at *
 go_enter Tryz.func54,Tryz.ntmps54
 go_wp2_with (refine hO.mono ?_;rintro e w1 ⟨rfl,h1,hk1⟩)
 go_ret2;refine⟨rfl,⟨p1,p2,F1,F2,h.setO h1 hk1 (by simp) ?_⟩,hk1.sub h.subO⟩;intro x hx;rcases List.mem_or_eq_of_mem_set hx with hx | rfl
 · exact h.ok.2.2 x hx
 · omega
end
section
open Go.RowKit
def YO (b:Nat) (s:List Int×List Int×List Bool) (i:Nat):List Int×List Int×List Bool:=
 (s.1++(if 0<XE (s.2.1.getD (b+i) 0) 0 then [XE (s.2.1.getD (b+i) 0) 0] else []),s.2.1.set (b+i) 0,YJ s.2.1 s.2.2 (b+i) 0)
def QG (b n:Nat) (l:List Int) (ds:List Bool):List Int×List Int×List Bool:=(List.range n).foldl (YO b) ([],l,ds)
theorem QQ (b n:Nat) (l:List Int) (ds:List Bool):QG b (n+1) l ds=YO b (QG b n l ds) n:=by simp[QG,List.range_succ]
theorem Zq (l:List Int) (ds:List Bool) (i:Nat) (z:Int):(YJ l ds i z).length=ds.length:=by unfold YJ;split <;> simp
theorem QK (b n:Nat) (l:List Int) (ds:List Bool):(QG b n l ds).2.1.length=l.length∧(QG b n l ds).2.2.length=ds.length:=by
 induction n with
 | zero=>exact⟨rfl,rfl⟩
 | succ n ih=>rw[QQ];simp[YO,Zq,ih]
theorem Va {x z:Int} (h : -1≤x∧x<4096):0≤XE x z∧XE x z<4096:=by unfold XE;split <;> omega
theorem ZAu {l:List Int} {i:Nat} (h:i<l.length):l.getD i 0∈l:=by rw[Jr h];exact List.getElem_mem _
theorem VR (b n:Nat) (l:List Int) (ds:List Bool) (lo:Int) (hlo : -1≤lo∧lo≤0) (h:∀ x∈l,lo≤x∧x<4096) :
 (∀ x∈(QG b n l ds).2.1,lo≤x∧x<4096)∧(∀ x∈(QG b n l ds).1,0<x∧x<4096)∧(QG b n l ds).1.length≤n:=by
 induction n with
 | zero=>exact⟨h,by simp[QG],by simp[QG]⟩
 | succ n ih=>
   obtain⟨ih1,ih2,ih3⟩:=ih;rw[QQ];simp only[YO]
   have hg:XE ((QG b n l ds).2.1.getD (b+n) 0) 0<4096:=by
    by_cases hlt:b+n<(QG b n l ds).2.1.length
    · have:=ih1 _ (ZAu hlt)
      exact(Va ⟨by omega,this.2⟩).2
    · have:(QG b n l ds).2.1.getD (b+n) 0=0:=by rw[List.getD_eq_getElem?_getD,List.getElem?_eq_none (by omega)];rfl
      rw[this];decide
   refine⟨fun x hx=>?_,fun x hx=>?_,?_⟩
   · rcases List.mem_or_eq_of_mem_set hx with hx | rfl
     · exact ih1 x hx
     · omega
   · rcases List.mem_append.1 hx with hx | hx
     · exact ih2 x hx
     · split at hx
       · rw[List.mem_singleton.1 hx];omega
       · cases hx
   · rw[List.length_append];split <;> simp <;> omega
theorem YBC (w:World) (base m p1 p2:Nat) (F F1 F2:List Nat) (I:PImage) (h:ImageIs w base m p1 p2 F F1 F2 I) (b n:Nat) (hn:1≤n) (hb:b+n≤I.ol.length) :
 Calls Tryz.prog 245 #[.pointer (some ⟨m,0,none⟩),.bool true,.int .i64 (b:Nat),.int .i64 (n:Nat)] w fun e w'=>∃ G,e=.returned (.tuple #[G,.bool true])∧w'.ownsRow w.heap.size 3 1 G (QG b n I.ol I.od).1.length (JK (QG b n I.ol I.od).1) ∧
  PagedAt w' base p2 F2 (QG b n I.ol I.od).2.1 (QG b n I.ol I.od).2.2∧Keep F2 w w':=by
 have hfew:=h.o.few.2;have hH:=VAA w base m p1 p2 F F1 F2 I h b n hn (by rw[h.ok.1];exact hb);have hl0:=(QK b 0 I.ol I.od).1
 go_enter Tryz.func245,Tryz.ntmps245
 go_wp2_with (go_at_call 125;refine hH.mono ?_;rintro e w' ⟨rfl,rfl⟩)
 go_loopw [8,10,11,18] (fun G _ _ i wr=>∃ (k:Nat) (s:List Int×List Int×List Bool),k≤n∧i=.int .i64 k∧Hid (s=QG b k I.ol I.od)∧wr.ownsRow w.heap.size 3 1 G s.1.length (JK s.1)∧PagedAt wr base p2 F2 s.2.1 s.2.2∧Keep F2 w wr)
  (fun _ _ _ i _=>n-(intOf i).toNat)
 case atStart=>exact⟨0,_,Nat.zero_le _,rfl,rfl,World.ownsRow_nil _ _ _ _,h.o,Keep.refl _ _⟩
 case round=>
  obtain⟨k,s,hk,rfl,hs,hG,hP,hkr⟩:=hrel
  have hgl:s.1.length≤64:=by
   have:=(VR b k I.ol I.od (-1) (by omega) h.ok.2.2).2.2;rw[← XA hs] at this;omega
  have hsl:s.2.1.length=I.ol.length:=by rw[XA hs];exact(QK b k I.ol I.od).1
  by_cases hlt:k<n
  · have hltI:((k:Nat):Int)<(n:Nat):=by omega
    have hbk:b+k<s.2.1.length:=by omega
    have hIm:ImageIs wr base m p1 p2 F F1 F2 { I with ol:=s.2.1,od:=s.2.2 }:=h.setO hP hkr hsl (by rw[XA hs];exact(VR b k I.ol I.od (-1) (by omega) h.ok.2.2).1);have hT:=XL wr base m p1 p2 F F1 F2 _ hIm true;have hS:=Xt wr base p2 F2 s.2.1 s.2.2 hP (b+k) hbk 0;have hstep:QG b (k+1) I.ol I.od=YO b s k:=by rw[QQ,← XA hs]
    have hgd:=Jr hbk
    have hrange:=Va (x:=s.2.1[b+k]) (z:=0) (by
     have:=(VR b k I.ol I.od (-1) (by omega) h.ok.2.2).1 s.2.1[b+k] (by rw[← XA hs];exact List.getElem_mem _);exact this)
    have HST:=JB hstep;have HGD:=JB hgd;have hadd:IntKind.i64.wrap ((b:Nat)+(k:Nat):Int)=(b:Nat)+(k:Nat):=by rw[IntKind.wrap_i64];omega
    clear hstep hgd hIm;rw[show (((b+k:Nat):Nat):Int)=(b:Nat)+(k:Nat) by omega] at hS;obtain⟨GA,gc,rfl,_⟩:=ZB hG;obtain⟨y,hy⟩:∃ y,y=XE s.2.1[b+k] 0:=⟨_,rfl⟩;rw[← hy] at hS hrange;have HY:=JB hy;clear hy
    by_cases hpos:0<y
    · go_wp2_with (first
       | (go_at_call 119;refine hT.mono ?_;rintro e w' ⟨rfl,rfl⟩)
       | (go_at_call 121;refine hS.mono ?_;rintro e w1 ⟨rfl,h1,hk1⟩;(have hG1:=QB hG hk1 (fun g hg hm=>by have:=(own_mem hG (g:=g) (by simpa using hg)).1;have:=h.o.lt g hm;omega)))
       | (refine elemInts.wp_app rfl (.tmp 30) (.tmp 32) rfl w.heap.size _ s.1.length (JK s.1) rfl (XD hG1 _) _ 1 1 [.int .i64 y] rfl (JS _ _ _) (by simp[Value.oneCell']) (by omega) (by omega) (by have:=hkr.size;have:=hk1.size;simp;omega) ?_;rintro G' w2 hG2 hk2 _ _;(obtain⟨GA',gc',rfl,_⟩:=ZB hG2);(have hkA:Keep (Value.slice GA s.1.length gc).ownBlock.toList w1 w2:=((Keep.refl _ _).alloc _).trans hk2 (fun x hx=>.inl hx))))
      go_roundw
      case rel=>
       have hst:YO b s k=(s.1++[y],s.2.1.set (b+k) 0,YJ s.2.1 s.2.2 (b+k) 0):=by unfold YO;rw[XA HGD,← XA HY,if_pos hpos]
       have hfr:=fun x hx=>(own_mem hG1 (g:=x) hx).1;refine⟨k+1,_,by omega,by go_num,(by show _=_;rw[XA HST,hst]),by simpa [JK,i64] using hG2,h1.keep hkA (fun x hx hm=>by have:=h.o.lt x hx;have:=hfr x hm;omega),(hkr.trans hk1 (fun x hx=>.inl hx)).trans hkA (fun x hx=>.inr (hfr x hx))⟩
      case measure=>simp[intOf];omega
    · go_wp2_with (first
       | (go_at_call 119;refine hT.mono ?_;rintro e w' ⟨rfl,rfl⟩)
       | (go_at_call 121;refine hS.mono ?_;rintro e w1 ⟨rfl,h1,hk1⟩;(have hG1:=QB hG hk1 (fun g hg hm=>by have:=(own_mem hG (g:=g) (by simpa using hg)).1;have:=h.o.lt g hm;omega))))
      go_roundw
      case rel=>
       have hst:YO b s k=(s.1,s.2.1.set (b+k) 0,YJ s.2.1 s.2.2 (b+k) 0):=by unfold YO;rw[XA HGD,← XA HY,if_neg (by omega),List.append_nil]
       exact⟨k+1,(s.1,s.2.1.set (b+k) 0,YJ s.2.1 s.2.2 (b+k) 0),by omega,by go_num,(by show _=_;rw[XA HST,hst]),hG1,h1,hkr.trans hk1 (fun x hx=>.inl hx)⟩
      case measure=>simp[intOf];omega
  · obtain rfl:k=n:=by omega
    obtain⟨GA,gc,rfl,_⟩:=ZB hG
    go_wp2_with fail
    go_ret2;rw[← XA hs];exact⟨_,rfl,hG,hP,hkr⟩
theorem YAy (w:World) (base m:Nat) (F:List Nat) (I:PImage) (h:ImageAt w base m F I) (b n:Nat) (hn:1≤n) (hb:b+n≤I.bl.length) :
 Calls Tryz.prog 352 #[.pointer (some ⟨m,0,none⟩),.int .i64 (b:Nat),.int .i64 (n:Nat)] w fun e w'=>∃ G,e=.returned (.tuple #[G,.bool true])∧w'.ownsRow w.heap.size 3 1 G (QG b n I.ol I.od).1.length (JK (QG b n I.ol I.od).1) ∧
  ImageAt w' base m F { I with ol:=(QG b n I.ol I.od).2.1,od:=(QG b n I.ol I.od).2.2 }∧Keep F w w':=by
 obtain⟨p1,p2,F1,F2,h⟩:=h;have hT:=YBC w base m p1 p2 F F1 F2 I h b n hn (by rw[← h.ok.1];exact hb);have hl:=(QK b n I.ol I.od).1;have hr:=(VR b n I.ol I.od (-1) (by omega) h.ok.2.2).1;generalize QG b n I.ol I.od=s at *;have HL:=JB hl;clear hl
 go_enter Tryz.func352,Tryz.ntmps352
 go_wp2_with (refine hT.mono ?_;rintro e w1 ⟨G,rfl,hG,h1,hk1⟩;obtain⟨GA,gc,rfl,_⟩:=ZB hG)
 go_ret2;exact⟨_,rfl,hG,⟨p1,p2,F1,F2,h.setO h1 hk1 (XA HL) hr⟩,hk1.sub h.subO⟩
theorem ZBF (w:World) (n:Nat) (h1:1≤n) (h2:n≤64) :
 Calls Tryz.prog 104 #[.int .i64 (n:Nat)] w fun e w'=>∃ m F,e=.returned (.pointer (some ⟨m,0,none⟩))∧ImageAt w' w.heap.size m F ⟨List.replicate n 0,List.replicate (pgs n) false,List.replicate n (-1),List.replicate (pgs n) false⟩∧Keep [] w w':=by
 have hA:=YAk n 0 h1 h2 w;have hB:=fun W=>YAk n (-1) h1 h2 W;have q1:(1:Int)≤(n:Nat):=by omega
 have q2:((n:Nat):Int)≤64:=by omega
 go_enter Tryz.func104,Tryz.ntmps104
 go_wp2_with (first | (refine hA.mono ?_;clear hA;rintro e w1 ⟨p1,F1,rfl,hp1,hk1⟩) | (refine(hB _).mono ?_;rintro e w2 ⟨p2,F2,rfl,hp2,hk2⟩))
 go_ret;have hk:Keep [] w w2:=hk1.trans0 hk2;have hp1':=hp1.keep0 hk2;refine⟨_,_,rfl,⟨p1,p2,F1,F2,Blk.new _ _ _,hp1'.keep0 ((Keep.refl _ _).alloc _),?_,?_,fun hm=>?_,fun hm=>?_,rfl,hk.size,?_⟩,hk.alloc _⟩
 · obtain⟨L,U,q⟩:=hp2.keep0 ((Keep.refl _ _).alloc (.cells #[.pointer (some ⟨p1,0,none⟩),.pointer (some ⟨p2,0,none⟩)] 202))
   exact⟨L,U,q.blk,ZC q.rl hk1.size,ZC q.rd hk1.size,q.foot,Nat.le_trans hk1.size q.base,q.pos,q.few,q.pages⟩
 · exact Apart.new (n:=w1.heap.size) hp1.lt hp2.ge
 · exact absurd (hp1'.lt _ hm) (by omega)
 · exact absurd (hp2.lt _ hm) (by omega)
 · refine⟨by simp,fun x hx=>?_,fun x hx=>?_⟩
   · have:=List.eq_of_mem_replicate hx;omega
   · have:=List.eq_of_mem_replicate hx;omega
end
section
open Go.RowKit
structure PRD where
 n:Nat
 sv:List Value
 hs:List (Nat×Value)
 lv:List Value
 asked:Nat
def hdc (q:Nat×Value):List Value:=[.int .i64 q.1,q.2]
structure RDkIs (w:World) (base d:Nat) (S H U L:Value) (F:List Nat) (R:PRD):Prop where
 blk:Blk w d 253 #[S,H,U,.int .i64 (-1),.bool false,.int .i64 R.asked,L]
 safe:w.ownsRow base 39 1 S R.n R.sv
 held:w.ownsRow base 364 2 H R.hs.length (R.hs.flatMap hdc)
 flt:w.ownsRow base 4 1 U R.n (List.replicate R.n (.bool false))
 laid:w.ownsRow base 39 1 L R.lv.length R.lv
 ne:S.ownBlock≠L.ownBlock
 foot:F=d :: (S.ownBlock.toList++(H.ownBlock.toList++(U.ownBlock.toList++L.ownBlock.toList)))
 base:base≤d
 pos:0<R.n
 few:R.n≤4096
 ats:∀ p∈R.hs,p.1<R.n∧∃ A n c,p.2=.slice A n c
 hfew:R.hs.length≤R.asked∧R.lv.length≤100000
def RDkAt (w:World) (base d:Nat) (F:List Nat) (R:PRD):Prop:=∃ S H U L,RDkIs w base d S H U L F R
namespace RDkIs
variable {w w':World} {base d:Nat} {S H U L:Value} {F l:List Nat} {R:PRD}
theorem keep (h:RDkIs w base d S H U L F R) (hk:Keep l w w') (ha:Apart F l):RDkIs w' base d S H U L F R:=by
 have hf:=h.foot
 refine⟨h.blk.keep hk (ha d (by simp[hf])),QB h.safe hk fun g hg=>ha g (by simp[hf,hg]),QB h.held hk fun g hg=>ha g (by simp[hf,hg]),QB h.flt hk fun g hg=>ha g (by simp[hf,hg]),
  QB h.laid hk fun g hg=>ha g (by simp[hf,hg]),h.ne,hf,h.base,h.pos,h.few,h.ats,h.hfew⟩
theorem keep0 (h:RDkIs w base d S H U L F R) (hk:Keep [] w w'):RDkIs w' base d S H U L F R:=h.keep hk Apart.nil_right
theorem lt (h:RDkIs w base d S H U L F R):∀ x∈F,x<w.heap.size:=by
 rw[h.foot];intro x hx;simp only[List.mem_cons,List.mem_append] at hx;rcases hx with rfl | hx | hx | hx | hx
 · exact h.blk.lt
 · exact(own_mem h.safe hx).2
 · exact(own_mem h.held hx).2
 · exact(own_mem h.flt hx).2
 · exact(own_mem h.laid hx).2
theorem ge (h:RDkIs w base d S H U L F R):∀ x∈F,base≤x:=by
 rw[h.foot];intro x hx;simp only[List.mem_cons,List.mem_append] at hx;rcases hx with rfl | hx | hx | hx | hx
 · exact h.base
 · exact(own_mem h.safe hx).1
 · exact(own_mem h.held hx).1
 · exact(own_mem h.flt hx).1
 · exact(own_mem h.laid hx).1
end RDkIs
namespace RDkAt
variable {w w':World} {base d:Nat} {F l:List Nat} {R:PRD}
theorem keep (h:RDkAt w base d F R) (hk:Keep l w w') (ha:Apart F l):RDkAt w' base d F R:=by
 obtain⟨S,H,U,L,h⟩:=h;exact⟨S,H,U,L,h.keep hk ha⟩
theorem keep0 (h:RDkAt w base d F R) (hk:Keep [] w w'):RDkAt w' base d F R:=h.keep hk Apart.nil_right
theorem lt (h:RDkAt w base d F R):∀ x∈F,x<w.heap.size:=by obtain⟨S,H,U,L,h⟩:=h;exact h.lt
theorem ge (h:RDkAt w base d F R):∀ x∈F,base≤x:=by obtain⟨S,H,U,L,h⟩:=h;exact h.ge
end RDkAt
end
section
open Go.RowKit
end
section
open Go.RowKit
def RDkNew (w:World) (base d:Nat) (F:List Nat) (n:Nat):Prop:=
 ∃ S U R,RDkIs w base d S (.slice none 0 0) U (.slice none 0 0) F R∧R.n=n∧R.hs=[]∧R.lv=[]∧R.asked=0∧∀ v∈R.sv,w.ownsRow base 5 1 v 64 (bys (List.replicate 64 0))
theorem RDkNew.keep0 {w w':World} {base d n:Nat} {F:List Nat} (h:RDkNew w base d F n) (hk:Keep [] w w'):RDkNew w' base d F n:=by
 obtain⟨S,U,R,h1,h2,h3,h4,h5,h6⟩:=h;exact⟨S,U,R,h1.keep0 hk,h2,h3,h4,h5,fun v hv=>KA (h6 v hv) hk⟩
theorem RDkNew.at_ {w:World} {base d n:Nat} {F:List Nat} (h:RDkNew w base d F n):∃ R,RDkAt w base d F R∧R.n=n∧R.lv=[]∧R.asked=0:=by
 obtain⟨S,U,R,h1,h2,h3,h4,h5,h6⟩:=h;exact⟨R,⟨_,_,_,_,h1⟩,h2,h4,h5⟩
theorem elem8N:ElemN Tryz.prog 39 5 (.int .u8 0) 1 1:=ElemN.of Tryz.underlying39 (by kernel_rfl) rfl (by omega)
end
end Go.Proofs.YtkonbpfbjiepfaaGreat
