/- Lemmas of the proof, with their conditions. -/
import Derived.Test.YthgphmfipnjllaaGreatV06
import Derived.Test.YthgphmfipnjllaaGreatV17
import Derived.Test.YthgphmfipnjllaaGreatV13
namespace Go.Proofs.YthgphmfipnjllaaGreat
set_option linter.unusedSimpArgs false
set_option linter.unusedVariables false
set_option maxHeartbeats 4000000
set_option maxRecDepth 20000
section
open Go.RowKit
structure PagedIs (w:World) (base p:Nat) (L U:Value) (F:List Nat) (l:List Int) (ds:List Bool):Prop where
 blk:Blk w p 311 #[L,.int .i64 15,U]
 rl:w.ownsRow base 3 1 L l.length (VS l)
 rd:w.ownsRow base 4 1 U ds.length (ds.map .bool)
 foot:F=p :: (L.ownBlock.toList++U.ownBlock.toList)
 base:base≤p
 pos:1≤l.length
 few:l.length≤64
 pages:ds.length=pgs l.length
def PagedAt (w:World) (base p:Nat) (F:List Nat) (l:List Int) (ds:List Bool):Prop:=∃ L U,PagedIs w base p L U F l ds
namespace PagedIs
variable {w w':World} {base p:Nat} {L U:Value} {F k:List Nat} {l:List Int} {ds:List Bool}
theorem keep (h:PagedIs w base p L U F l ds) (hk:Keep k w w') (ha:Apart F k):PagedIs w' base p L U F l ds:=by
 have hf:=h.foot
 exact⟨h.blk.keep hk (ha p (by simp[hf])),KA h.rl hk fun g hg=>ha g (by simp[hf,hg]),KA h.rd hk fun g hg=>ha g (by simp[hf,hg]),hf,h.base,h.pos,h.few,h.pages⟩
theorem keep0 (h:PagedIs w base p L U F l ds) (hk:Keep [] w w'):PagedIs w' base p L U F l ds:=h.keep hk Apart.nil_right
theorem lt (h:PagedIs w base p L U F l ds):∀ x∈F,x<w.heap.size:=by
 rw[h.foot]
 intro x hx
 simp only[List.mem_cons,List.mem_append] at hx
 rcases hx with rfl | hx | hx
 · exact h.blk.lt
 · exact(own_mem h.rl hx).2
 · exact(own_mem h.rd hx).2
theorem ge (h:PagedIs w base p L U F l ds):∀ x∈F,base≤x:=by
 rw[h.foot]
 intro x hx
 simp only[List.mem_cons,List.mem_append] at hx
 rcases hx with rfl | hx | hx
 · exact h.base
 · exact(own_mem h.rl hx).1
 · exact(own_mem h.rd hx).1
theorem forms (h:PagedIs w base p L U F l ds):∃ g c u uc,L=.slice (some ⟨g,0,none⟩) l.length c∧U=.slice (some ⟨u,0,none⟩) ds.length uc∧g≠u∧p≠g∧p≠u:=by
 have hp:=(KC h.pos h.few).1
 have hpg:=h.pages
 obtain⟨g,c,rfl,_⟩:=QD h.rl h.pos
 obtain⟨u,uc,rfl,_⟩:=QD h.rd (by omega)
 exact⟨g,c,u,uc,rfl,rfl,fun e=>own_ne h.rl h.rd (by decide) rfl (by simp[Value.ownBlock,e]),fun e=>own_blk_ne h.rl h.blk (by decide) (by simp[Value.ownBlock,e]),fun e=>own_blk_ne h.rd h.blk (by decide) (by simp[Value.ownBlock,e])⟩
theorem cells (h:PagedIs w base p L U F l ds):w.cell? ⟨p,0,none⟩=some L∧w.cell? ⟨p,1,none⟩=some (.int .i64 15)∧w.cell? ⟨p,2,none⟩=some U:=
 ⟨by simpa using h.blk.cell 0,by simpa using h.blk.cell 1,by simpa using h.blk.cell 2⟩
end PagedIs
theorem Ye {w:World} {base p g c:Nat} {U:Value} {F:List Nat} {l:List Int} {ds:List Bool} (h:PagedIs w base p (.slice (some ⟨g,0,none⟩) l.length c) U F l ds) (i:Nat) (hi:i<l.length):w.cell? ⟨g,i,none⟩=some (.int .i64 l[i]):=
 QK h.rl (by simp[VS,i64,hi])
section
variable (w:World) (base p:Nat) (F:List Nat) (l:List Int) (ds:List Bool) (h:PagedAt w base p F l ds)
include h
theorem LenP_is:Calls Tryz.prog 242 #[.pointer (some ⟨p,0,none⟩)] w fun e w'=>e=.returned (.int .i64 (l.length:Nat))∧w=w':=by
 obtain⟨L,U,h⟩:=h
 obtain⟨g,c,u,uc,rfl,rfl,_⟩:=h.forms
 obtain⟨c0,c1,c2⟩:=h.cells
 go_enter Tryz.func242,Tryz.ntmps242
 go_wp2
 go_ret
 exact⟨rfl,rfl⟩
theorem Jn (i:Nat) (hi:i<l.length):Calls Tryz.prog 146 #[.pointer (some ⟨p,0,none⟩),.int .i64 (i:Nat)] w fun e w'=>e=.returned (.tuple #[.int .i64 l[i],.bool true])∧w=w':=by
 have hT:=LenP_is w base p F l ds h
 obtain⟨L,U,h⟩:=h
 obtain⟨g,c,u,uc,rfl,rfl,_⟩:=h.forms
 obtain⟨c0,c1,c2⟩:=h.cells
 have hc:=Ye h i hi
 have hiI:((i:Nat):Int)<(l.length:Nat):=by omega
 generalize l[i]=z at *
 go_enter Tryz.func146,Tryz.ntmps146
 go_wp2_with (refine hT.mono ?_;clear hT;rintro e w' ⟨rfl,rfl⟩)
 go_ret2
 exact⟨rfl,rfl⟩
def ZJ (l:List Int) (ds:List Bool) (i:Nat) (z:Int):List Bool:=if l.getD i 0=z then ds else ds.set (i / 15) true
omit h in
theorem Xm {l:List Int} {i:Nat} (h:i<l.length):l.getD i 0=l[i]:=by rw[List.getD_eq_getElem?_getD,List.getElem?_eq_getElem h];rfl
theorem XAj (i:Nat) (hi:i<l.length) (z:Int):Calls Tryz.prog 144 #[.pointer (some ⟨p,0,none⟩),.int .i64 (i:Nat),.int .i64 z] w fun e w'=>e=.returned (.bool true)∧PagedAt w' base p F (l.set i z) (ZJ l ds i z)∧Keep F w w':=by
 have hT:=Jn w base p F l ds h i hi
 obtain⟨L,U,h⟩:=h
 obtain⟨g,c,u,uc,rfl,rfl,hgu,hpg,hpu⟩:=h.forms
 obtain⟨c0,c1,c2⟩:=h.cells
 have hc:=Ye h i hi
 have hiI:((i:Nat):Int)<(l.length:Nat):=by omega
 have hg0:=Xm hi
 by_cases hz:l[i]=z
 · have he1:l.set i z=l:=by rw[← hz];exact List.set_getElem_self hi
   have he2:ZJ l ds i z=ds:=by unfold ZJ;rw[hg0,if_pos hz]
   rw[he1,he2]
   have hne:(l[i] != z)=false:=by simp[hz]
   clear hz he1 he2 hg0
   generalize l[i]=y at *
   go_enter Tryz.func144,Tryz.ntmps144
   go_wp2_with (refine hT.mono ?_;clear hT;rintro e w' ⟨rfl,rfl⟩)
   go_ret
   exact⟨rfl,⟨_,_,h⟩,(Keep.refl _ _)⟩
 · have he2:ZJ l ds i z=ds.set (i / 15) true:=by unfold ZJ;rw[hg0,if_neg hz]
   have hne:(l[i] != z)=true:=by simpa using hz
   have hfl:=XJ h.rl i
   have hpgs:=h.pages
   have hd:i / 15<ds.length:=by rw[hpgs];unfold pgs;omega
   have hq:IntKind.i64.wrap (((i:Nat):Int) / 15)=(i / 15:Nat):=by
    have:=h.few
    rw[IntKind.wrap_i64];omega
   obtain⟨q,hqd⟩:∃ q,q=i / 15:=⟨_,rfl⟩
   rw[← hqd] at he2 hd hq
   have hdI:((q:Nat):Int)<(ds.length:Nat):=by omega
   have hfd:=XJ h.rd q
   have hcd:w.cell? ⟨u,q,none⟩=some (.bool ds[q]):=QK h.rd (by simp[hd])
   have hk1:Keep [g] w ((w.setCell ⟨g,i,none⟩ (.int .i64 z)).drew):=(Keep.refl _ _).drew.setCell (.inl (by simp)) _
   have hl1:=ZA (Kb h.rl i (.int .i64 z)) (Keep.refl [] _).drew
   have hd1:=KA h.rd hk1 (fun x hx=>by simp[Value.ownBlock] at hx;subst hx;simp;exact fun e=>hgu e.symm)
   have hb1:=h.blk.keep hk1 (by simpa using hpg)
   have hcd1:((w.setCell ⟨g,i,none⟩ (.int .i64 z)).drew).cell? ⟨u,q,none⟩=some (.bool ds[q]):=QK hd1 (by simp[hd])
   have hfd1:=XJ hd1 (q)
   have hk2:Keep [u] ((w.setCell ⟨g,i,none⟩ (.int .i64 z)).drew) ((w.setCell ⟨g,i,none⟩ (.int .i64 z)).drew.setCell ⟨u,q,none⟩ (.bool true)):=(Keep.refl _ _).setCell (.inl (by simp)) _
   have hd2:=Kb hd1 (q) (.bool true)
   have hl2:=KA hl1 hk2 (fun x hx=>by simp[Value.ownBlock] at hx;subst hx;simpa using hgu)
   have hb2:=hb1.keep hk2 (by simpa using hpu)
   rw[show (ds.map Value.bool).set (q) (.bool true)=(ds.set (q) true).map .bool by simp[List.map_set]] at hd2
   rw[show (VS l).set i (.int .i64 z)=VS (l.set i z) by simp[VS,i64,List.map_set]] at hl2
   have hres:PagedIs ((w.setCell ⟨g,i,none⟩ (.int .i64 z)).drew.setCell ⟨u,q,none⟩ (.bool true)) base p (.slice (some ⟨g,0,none⟩) l.length c) (.slice (some ⟨u,0,none⟩) ds.length uc) F (l.set i z) (ds.set (q) true):=
    ⟨hb2,by rw[List.length_set];exact hl2,by rw[List.length_set];exact hd2,h.foot,h.base,by rw[List.length_set];exact h.pos,by rw[List.length_set];exact h.few,by rw[List.length_set,List.length_set];exact hpgs⟩
   rw[he2]
   have HF:=ZB h.foot
   clear hz hg0 hpgs he2 hqd
   generalize l[i]=y at *
   generalize ds[q]=x at *
   go_enter Tryz.func144,Tryz.ntmps144
   go_wp2_with (refine hT.mono ?_;clear hT;rintro e w' ⟨rfl,rfl⟩)
   refine ZT (fun w'=>w'.cell? ⟨p,0,none⟩=some (.slice (some ⟨g,0,none⟩) l.length c)∧w'.cell? ⟨p,1,none⟩=some (.int .i64 15)∧w'.cell? ⟨p,2,none⟩=some (.slice (some ⟨u,0,none⟩) ds.length uc)) 18 [[0,1,2,3,4,5,6,7,8,9,10,11,12,13,14,15,16],[17]] ⟨c0,c1,c2⟩ ?_
   simp only[PI]
   iterate 17 (refine ZH ?_;simp only[Act.put,PU])
   refine XB (by rfl) (fun K hK=>?_)
   go_wp2_with fail
   refine hK _ _ (⟨by simpa using hb1.cell 0,by simpa using hb1.cell 1,by simpa using hb1.cell 2⟩) ?_
   clear hK K
   try simp only[Act.put,PU]
   refine JB ?_
   go_wp2_with fail
   go_ret
   have hF:=QA HF
   exact⟨rfl,⟨_,_,hres⟩,(hk1.sub (m:=F) (by rw[hF];simp[Value.ownBlock])).trans (hk2.sub (m:=F) (by rw[hF];simp[Value.ownBlock])) (fun x hx=>.inl hx)⟩
end
end
section
open Go.RowKit
theorem Vk {w W:World} {n P:Nat} {z:Int} {u:Value} {g3 base':Nat} (h0:1≤n) (hn:n≤64) (hP:pgs n=P) (hu:W.ownsRow base' 3 1 u n (List.replicate n (.int .i64 z))) (hb':w.heap.size≤base') (hb:Blk W g3 4 (madeCells (Value.bool false).cells (P*1))) (hg:w.heap.size≤g3) (hk:Keep [] w W) :
 PagedAt (W.alloc (.cells #[u,.int .i64 15,.slice (some ⟨g3,0,none⟩) P P] 311)) w.heap.size W.heap.size (W.heap.size :: (u.ownBlock.toList++(Value.slice (some ⟨g3,0,none⟩) P P).ownBlock.toList)) (List.replicate n z) (List.replicate P false)∧Keep [] w (W.alloc (.cells #[u,.int .i64 15,.slice (some ⟨g3,0,none⟩) P P] 311)):=by
 have hPb:P≤64:=by rw[← hP];unfold pgs;omega
 refine⟨⟨_,_,Blk.new _ _ _,YD ?_ _,YD ?_ _,rfl,hk.size,by simpa using h0,by simpa using hn,by simp[hP]⟩,hk.alloc _⟩
 · rw[List.length_replicate,show VS (List.replicate n z)=List.replicate n (.int .i64 z) by simp[VS,i64]]
   exact VC hu hb'
 · rw[List.length_replicate]
   exact XL (e:=4) (s:=1) (z:=.bool false) hb (by omega) hg (by omega) (by simp) rfl
theorem KAa (n:Nat) (z:Int) (h0:1≤n) (hn:n≤64) (w:World) :
 Calls Tryz.prog 230 #[.int .i64 (n:Nat),.int .i64 15,.int .i64 z] w fun e w'=>∃ p F,e=.returned (.pointer (some ⟨p,0,none⟩))∧PagedAt w' w.heap.size p F (List.replicate n z) (List.replicate (pgs n) false)∧Keep [] w w':=by
 have hI:(1:Int)≤(n:Nat):=by omega
 have hI2:((n:Nat):Int)≤64:=by omega
 have hw1:IntKind.i64.wrap (((n:Nat):Int)+15)=(n:Nat)+15:=by rw[IntKind.wrap_i64];omega
 have hw2:IntKind.i64.wrap (((n:Nat):Int)+15-1)=(n:Nat)+15-1:=by rw[IntKind.wrap_i64];omega
 have hq:IntKind.i64.wrap ((((n:Nat):Int)+15-1).tdiv 15)=(pgs n:Nat):=by unfold pgs;rw[Int.tdiv_eq_ediv_of_nonneg (by omega),IntKind.wrap_i64];omega
 have hpb:pgs n≤5:=by unfold pgs;omega
 have hp1:1≤pgs n:=by unfold pgs;omega
 have hR:=fun A c W (ha:Rd W A 1 [.int .i64 z])=>Vg A c z n h0 (by omega) W ha
 go_enter Tryz.func230,Tryz.ntmps230
 go_wp2_with fail
 generalize hP:pgs n=P at *
 have HP:=ZB hP
 clear hP
 refine ZR (fun w'=>Keep [] w w') 12 (.held 0 (.held 2 (.held 4 (.held 5 (.held 6 (.held 7 (.held 8 (.held 9 (.held 10 (.two 1 (.two 3 (.loud 11 .nil) 11 (.loud 3 .nil)) 11 (.loud 1 (.loud 3 .nil)))))))))))) (Keep.refl _ _).drew ?_
 simp only[RT.pick,PJ]
 iterate 9 (refine ZK ?_;simp only[Act.put,PU])
 refine wpR_two ?_ ?_
 · refine wpR_loud (by rfl) (fun K hK=>?_)
   go_wp2_with fail
   have hb1:=(Blk.new w 3 #[.int .i64 z]).drew
   have hk1:Keep [] w (w.alloc (.cells #[.int .i64 z] 3)).drew:=((Keep.refl _ _).alloc _).drew
   have hrd1:=Rd.of_blk hb1 (n:=1) (by simp)
   generalize (w.alloc (.cells #[.int .i64 z] 3)).drew=w1 at *
   refine hK _ _ (hk1) ?_
   clear hK K
   try simp only[Act.put,PU]
   refine wpR_two ?_ ?_
   · refine wpR_loud (by rfl) (fun K hK=>?_)
     go_wp2_with (refine(hR _ _ _ hrd1).mono ?_;rintro e w2 ⟨u,rfl,hu,hk2⟩)
     refine hK _ _ (hk1.trans0 hk2) ?_
     clear hK K
     try simp only[Act.put,PU]
     refine wpR_loud (by rfl) (fun K hK=>?_)
     refine elemBool.wp1_make _ _ rfl .i64 .i64 P rfl rfl (by omega) (by omega) ?_
     intro w3 g3 hg3 hs3 hb3 hk3
     refine hK _ _ ((hk1.trans0 hk2).trans0 hk3) ?_
     clear hK K
     try simp only[Act.put,PU]
     refine wpR_nil ?_
     have hs1:=hk1.size
     have hs2:=hk2.size
     have hu':=ZA hu hk3
     have hw:Keep [] w w3:=(hk1.trans0 hk2).trans0 hk3
     have hR:=Vk (w:=w) h0 hn (QA HP) hu' hs1 hb3 (by rw[hg3];omega) hw
     obtain⟨UA,uc,rfl,_⟩:=QB hu'
     clear hg3 hs3 hs1 hs2 hk1 hk2 hk3
     go_wp2_with fail
     go_ret
     exact⟨_,_,rfl,by rw[QA HP];exact hR⟩
   · refine wpR_loud (by rfl) (fun K hK=>?_)
     refine elemBool.wp1_make _ _ rfl .i64 .i64 P rfl rfl (by omega) (by omega) ?_
     intro w3 g3 hg3 hs3 hb3 hk3
     have hge:w.heap.size≤g3:=by rw[hg3];exact hk1.size
     clear hg3 hs3
     refine hK _ _ (hk1.trans0 hk3) ?_
     clear hK K
     try simp only[Act.put,PU]
     refine wpR_loud (by rfl) (fun K hK=>?_)
     go_wp2_with (refine(hR _ _ _ (hrd1.keep hk3)).mono ?_;rintro e w2 ⟨u,rfl,hu,hk2⟩)
     refine hK _ _ ((hk1.trans0 hk3).trans0 hk2) ?_
     clear hK K
     try simp only[Act.put,PU]
     refine wpR_nil ?_
     have hs1:=hk1.size
     have hs3':=hk3.size
     have hw:Keep [] w w2:=(hk1.trans0 hk3).trans0 hk2
     have hR:=Vk (w:=w) h0 hn (QA HP) hu (Nat.le_trans hs1 hs3') (hb3.keep0 hk2) hge hw
     obtain⟨UA,uc,rfl,_⟩:=QB hu
     clear hs1 hs3' hk1 hk2 hk3
     go_wp2_with fail
     go_ret
     exact⟨_,_,rfl,by rw[QA HP];exact hR⟩
 · refine wpR_loud (by rfl) (fun K hK=>?_)
   refine elemBool.wp1_make _ _ rfl .i64 .i64 P rfl rfl (by omega) (by omega) ?_
   intro w3 g3 hg3 hs3 hb3 hk3
   replace hk3:Keep [] w w3:=(Keep.refl _ _).drew.trans0 hk3
   have hge:w.heap.size≤g3:=by rw[hg3];exact Nat.le_refl _
   clear hg3 hs3
   refine hK _ _ (hk3) ?_
   clear hK K
   try simp only[Act.put,PU]
   refine wpR_loud (by rfl) (fun K hK=>?_)
   go_wp2_with fail
   have hb1:=Blk.new w3 3 #[.int .i64 z]
   have hk1:Keep [] w3 (w3.alloc (.cells #[.int .i64 z] 3)):=(Keep.refl _ _).alloc _
   have hrd1:=Rd.of_blk hb1 (n:=1) (by simp)
   generalize w3.alloc (.cells #[.int .i64 z] 3)=w1 at *
   refine hK _ _ (hk3.trans0 hk1) ?_
   clear hK K
   try simp only[Act.put,PU]
   refine wpR_loud (by rfl) (fun K hK=>?_)
   go_wp2_with (refine(hR _ _ _ hrd1).mono ?_;rintro e w2 ⟨u,rfl,hu,hk2⟩)
   refine hK _ _ ((hk3.trans0 hk1).trans0 hk2) ?_
   clear hK K
   try simp only[Act.put,PU]
   refine wpR_nil ?_
   have hs1:=hk1.size
   have hs4:=hk3.size
   have hw:Keep [] w w2:=(hk3.trans0 hk1).trans0 hk2
   have hR:=Vk (w:=w) h0 hn (QA HP) hu (Nat.le_trans hs4 hs1) ((hb3.keep0 hk1).keep0 hk2) hge hw
   obtain⟨UA,uc,rfl,_⟩:=QB hu
   clear hs1 hs4 hk1 hk2 hk3
   go_wp2_with fail
   go_ret
   exact⟨_,_,rfl,by rw[QA HP];exact hR⟩
end
section
open Go.RowKit
structure PImage where
 bl:List Int
 bd:List Bool
 ol:List Int
 od:List Bool
def PImage.Ok (I:PImage):Prop:=I.bl.length=I.ol.length∧(∀ x∈I.bl,0≤x∧x<4096)∧(∀ x∈I.ol,-1≤x∧x<4096)
structure ImageIs (w:World) (base m p1 p2:Nat) (F F1 F2:List Nat) (I:PImage):Prop where
 blk:Blk w m 215 #[.pointer (some ⟨p1,0,none⟩),.pointer (some ⟨p2,0,none⟩)]
 b:PagedAt w base p1 F1 I.bl I.bd
 o:PagedAt w base p2 F2 I.ol I.od
 apart:Apart F1 F2
 m1:m∉F1
 m2:m∉F2
 foot:F=m :: (F1++F2)
 base:base≤m
 ok:I.Ok
def ImageAt (w:World) (base m:Nat) (F:List Nat) (I:PImage):Prop:=∃ p1 p2 F1 F2,ImageIs w base m p1 p2 F F1 F2 I
namespace PagedAt
variable {w w':World} {base p:Nat} {F k:List Nat} {l:List Int} {ds:List Bool}
theorem keep (h:PagedAt w base p F l ds) (hk:Keep k w w') (ha:Apart F k):PagedAt w' base p F l ds:=by obtain⟨L,U,h⟩:=h;exact⟨L,U,h.keep hk ha⟩
theorem keep0 (h:PagedAt w base p F l ds) (hk:Keep [] w w'):PagedAt w' base p F l ds:=h.keep hk Apart.nil_right
theorem lt (h:PagedAt w base p F l ds):∀ x∈F,x<w.heap.size:=by obtain⟨L,U,h⟩:=h;exact h.lt
theorem ge (h:PagedAt w base p F l ds):∀ x∈F,base≤x:=by obtain⟨L,U,h⟩:=h;exact h.ge
theorem few (h:PagedAt w base p F l ds):1≤l.length∧l.length≤64:=by obtain⟨L,U,h⟩:=h;exact⟨h.pos,h.few⟩
end PagedAt
namespace ImageIs
variable {w w':World} {base m p1 p2:Nat} {F F1 F2 k:List Nat} {I:PImage}
theorem keep (h:ImageIs w base m p1 p2 F F1 F2 I) (hk:Keep k w w') (ha:Apart F k):ImageIs w' base m p1 p2 F F1 F2 I:=by
 have hf:=h.foot
 exact⟨h.blk.keep hk (ha m (by simp[hf])),h.b.keep hk (fun x hx=>ha x (by simp[hf,hx])),h.o.keep hk (fun x hx=>ha x (by simp[hf,hx])),h.apart,h.m1,h.m2,hf,h.base,h.ok⟩
theorem keep0 (h:ImageIs w base m p1 p2 F F1 F2 I) (hk:Keep [] w w'):ImageIs w' base m p1 p2 F F1 F2 I:=h.keep hk Apart.nil_right
theorem lt (h:ImageIs w base m p1 p2 F F1 F2 I):∀ x∈F,x<w.heap.size:=by
 rw[h.foot]
 intro x hx
 simp only[List.mem_cons,List.mem_append] at hx
 rcases hx with rfl | hx | hx
 · exact h.blk.lt
 · exact h.b.lt x hx
 · exact h.o.lt x hx
theorem ge (h:ImageIs w base m p1 p2 F F1 F2 I):∀ x∈F,base≤x:=by
 rw[h.foot]
 intro x hx
 simp only[List.mem_cons,List.mem_append] at hx
 rcases hx with rfl | hx | hx
 · exact h.base
 · exact h.b.ge x hx
 · exact h.o.ge x hx
theorem cells (h:ImageIs w base m p1 p2 F F1 F2 I):w.cell? ⟨m,0,none⟩=some (.pointer (some ⟨p1,0,none⟩))∧w.cell? ⟨m,1,none⟩=some (.pointer (some ⟨p2,0,none⟩)):=
 ⟨by simpa using h.blk.cell 0,by simpa using h.blk.cell 1⟩
theorem setB (h:ImageIs w base m p1 p2 F F1 F2 I) {l:List Int} {ds:List Bool} (hb:PagedAt w' base p1 F1 l ds) (hk:Keep F1 w w') (hl:l.length=I.bl.length) (hr:∀ x∈l,0≤x∧x<4096):ImageIs w' base m p1 p2 F F1 F2 { I with bl:=l,bd:=ds }:=
 ⟨h.blk.keep hk h.m1,hb,h.o.keep hk h.apart.symm,h.apart,h.m1,h.m2,h.foot,h.base,⟨hl.trans h.ok.1,hr,h.ok.2.2⟩⟩
theorem setO (h:ImageIs w base m p1 p2 F F1 F2 I) {l:List Int} {ds:List Bool} (hb:PagedAt w' base p2 F2 l ds) (hk:Keep F2 w w') (hl:l.length=I.ol.length) (hr:∀ x∈l,-1≤x∧x<4096):ImageIs w' base m p1 p2 F F1 F2 { I with ol:=l,od:=ds }:=
 ⟨h.blk.keep hk h.m2,h.b.keep hk h.apart,hb,h.apart,h.m1,h.m2,h.foot,h.base,⟨h.ok.1.trans hl.symm,h.ok.2.1,hr⟩⟩
theorem subB (h:ImageIs w base m p1 p2 F F1 F2 I):∀ x∈F1,x∈F:=fun x hx=>by rw[h.foot];simp[hx]
theorem subO (h:ImageIs w base m p1 p2 F F1 F2 I):∀ x∈F2,x∈F:=fun x hx=>by rw[h.foot];simp[hx]
end ImageIs
namespace ImageAt
variable {w w':World} {base m:Nat} {F k:List Nat} {I:PImage}
theorem keep (h:ImageAt w base m F I) (hk:Keep k w w') (ha:Apart F k):ImageAt w' base m F I:=by obtain⟨p1,p2,F1,F2,h⟩:=h;exact⟨p1,p2,F1,F2,h.keep hk ha⟩
theorem keep0 (h:ImageAt w base m F I) (hk:Keep [] w w'):ImageAt w' base m F I:=h.keep hk Apart.nil_right
theorem lt (h:ImageAt w base m F I):∀ x∈F,x<w.heap.size:=by obtain⟨p1,p2,F1,F2,h⟩:=h;exact h.lt
theorem ge (h:ImageAt w base m F I):∀ x∈F,base≤x:=by obtain⟨p1,p2,F1,F2,h⟩:=h;exact h.ge
theorem ok (h:ImageAt w base m F I):I.Ok:=by obtain⟨p1,p2,F1,F2,h⟩:=h;exact h.ok
theorem few (h:ImageAt w base m F I):1≤I.bl.length∧I.bl.length≤64:=by obtain⟨p1,p2,F1,F2,h⟩:=h;exact h.b.few
end ImageAt
section
variable (w:World) (base m p1 p2:Nat) (F F1 F2:List Nat) (I:PImage) (h:ImageIs w base m p1 p2 F F1 F2 I)
include h
theorem XU (over:Bool):Calls Tryz.prog 141 #[.pointer (some ⟨m,0,none⟩),.bool over] w fun e w'=>e=.returned (.pointer (some ⟨if over then p2 else p1,0,none⟩))∧w=w':=by
 obtain⟨c0,c1⟩:=h.cells
 cases over
 all_goals
  go_enter Tryz.func141,Tryz.ntmps141
  go_wp2
  go_ret
  exact⟨rfl,rfl⟩
theorem BlocksI_is:Calls Tryz.prog 135 #[.pointer (some ⟨m,0,none⟩)] w fun e w'=>e=.returned (.int .i64 (I.bl.length:Nat))∧w=w':=by
 have hT:=XU w base m p1 p2 F F1 F2 I h false
 have hL:=LenP_is w base p1 F1 I.bl I.bd h.b
 go_enter Tryz.func135,Tryz.ntmps135
 go_wp2_with (first | (go_at_call 141;refine hT.mono ?_;rintro e w' ⟨rfl,rfl⟩) | (go_at_call 242;refine hL.mono ?_;rintro e w' ⟨rfl,rfl⟩))
 go_ret
 exact⟨rfl,rfl⟩
theorem VAL (b n:Nat) (hn:1≤n) (hb:b+n≤I.bl.length):Calls Tryz.prog 147 #[.pointer (some ⟨m,0,none⟩),.int .i64 (b:Nat),.int .i64 (n:Nat)] w fun e w'=>e=.returned (.bool true)∧w=w':=by
 have hL:=BlocksI_is w base m p1 p2 F F1 F2 I h
 have hf:=h.b.few.2
 have q1:(1:Int)≤(n:Nat):=by omega
 have q2:((n:Nat):Int)≤(I.bl.length:Nat):=by omega
 have q3:((b:Nat):Int)≤(I.bl.length:Nat)-(n:Nat):=by omega
 generalize I.bl.length=k at *
 go_enter Tryz.func147,Tryz.ntmps147
 go_wp2_with (refine hL.mono ?_;rintro e w' ⟨rfl,rfl⟩)
 go_ret
 exact⟨rfl,rfl⟩
end
def YF (was z:Int):Int:=if was=z then 0 else max was 0
theorem QAH (w:World) (base p:Nat) (F:List Nat) (l:List Int) (ds:List Bool) (h:PagedAt w base p F l ds) (i:Nat) (hi:i<l.length) (z:Int) :
 Calls Tryz.prog 143 #[.pointer (some ⟨p,0,none⟩),.int .i64 (i:Nat),.int .i64 z] w fun e w'=>e=.returned (.int .i64 (YF l[i] z))∧PagedAt w' base p F (l.set i z) (ZJ l ds i z)∧Keep F w w':=by
 have hG:=Jn w base p F l ds h i hi
 have hS:=XAj w base p F l ds h i hi z
 by_cases hz:l[i]=z
 · have hne:(l[i] == z)=true:=by simp[hz]
   have he:YF l[i] z=0:=by unfold YF;rw[if_pos hz]
   rw[he]
   clear hz he
   generalize l[i]=y at *
   go_enter Tryz.func143,Tryz.ntmps143
   go_wp2_with (first | (go_at_call 146;refine hG.mono ?_;rintro e w' ⟨rfl,rfl⟩) | (go_at_call 144;refine hS.mono ?_;rintro e w1 ⟨rfl,h1,hk1⟩))
   go_ret
   exact⟨rfl,h1,hk1⟩
 · have hne:(l[i] == z)=false:=by simpa using hz
   have he:YF l[i] z=max l[i] 0:=by unfold YF;rw[if_neg hz]
   rw[he]
   clear hz he
   generalize l[i]=y at *
   go_enter Tryz.func143,Tryz.ntmps143
   go_wp2_with (first | (go_at_call 146;refine hG.mono ?_;rintro e w' ⟨rfl,rfl⟩) | (go_at_call 144;refine hS.mono ?_;rintro e w1 ⟨rfl,h1,hk1⟩))
   all_goals
    go_ret
    exact⟨VI (by omega),h1,hk1⟩
theorem ZAw (w:World) (base m p1 p2:Nat) (F F1 F2:List Nat) (I:PImage) (h:ImageIs w base m p1 p2 F F1 F2 I) (b a:Nat) (hb:b<I.ol.length) (ha:1≤a∧a<4096) :
 Calls Tryz.prog 62 #[.pointer (some ⟨m,0,none⟩),.bool true,.int .i64 (b:Nat),.int .i64 (a:Nat)] w fun e w'=>e=.returned (.tuple #[.int .i64 (YF I.ol[b] a),.bool true])∧PagedAt w' base p2 F2 (I.ol.set b a) (ZJ I.ol I.od b a)∧Keep F2 w w':=by
 have hH:=VAL w base m p1 p2 F F1 F2 I h b 1 (Nat.le_refl _) (by rw[h.ok.1];exact hb)
 have hT:=XU w base m p1 p2 F F1 F2 I h true
 have hS:=QAH w base p2 F2 I.ol I.od h.o b hb a
 obtain⟨ha1,ha2⟩:=ha
 have q1:(1:Int)≤(a:Nat):=by omega
 have q2:((a:Nat):Int)<4096:=by omega
 generalize YF I.ol[b] a=y at *
 go_enter Tryz.func62,Tryz.ntmps62
 go_wp2_with (first | (go_at_call 147;refine hH.mono ?_;rintro e w' ⟨rfl,rfl⟩) | (go_at_call 141;refine hT.mono ?_;rintro e w' ⟨rfl,rfl⟩) | (go_at_call 143;refine hS.mono ?_;rintro e w1 ⟨rfl,h1,hk1⟩))
 go_ret2
 exact⟨rfl,h1,hk1⟩
theorem YAg (w:World) (base m:Nat) (F:List Nat) (I:PImage) (h:ImageAt w base m F I) (b a:Nat) (hb:b<I.bl.length) (ha:1≤a∧a<4096) :
 Calls Tryz.prog 57 #[.pointer (some ⟨m,0,none⟩),.int .i64 (b:Nat),.int .i64 (a:Nat)] w fun e w'=>e=.returned (.tuple #[.int .i64 (YF (I.ol.getD b 0) a),.bool true])∧ImageAt w' base m F { I with ol:=I.ol.set b a,od:=ZJ I.ol I.od b a }∧Keep F w w':=by
 obtain⟨p1,p2,F1,F2,h⟩:=h
 have hbo:b<I.ol.length:=by rw[← h.ok.1];exact hb
 have hO:=ZAw w base m p1 p2 F F1 F2 I h b a hbo ha
 rw[Xm hbo]
 generalize YF I.ol[b] a=y at *
 go_enter Tryz.func57,Tryz.ntmps57
 go_wp2_with (refine hO.mono ?_;rintro e w1 ⟨rfl,h1,hk1⟩)
 go_ret2
 refine⟨rfl,⟨p1,p2,F1,F2,h.setO h1 hk1 (by simp) ?_⟩,hk1.sub h.subO⟩
 intro x hx
 rcases List.mem_or_eq_of_mem_set hx with hx | rfl
 · exact h.ok.2.2 x hx
 · omega
end
section
open Go.RowKit
def Qc (b:Nat) (s:List Int×List Int×List Bool) (i:Nat):List Int×List Int×List Bool:=
 (s.1++(if 0<YF (s.2.1.getD (b+i) 0) 0 then [YF (s.2.1.getD (b+i) 0) 0] else []),s.2.1.set (b+i) 0,ZJ s.2.1 s.2.2 (b+i) 0)
def QM (b n:Nat) (l:List Int) (ds:List Bool):List Int×List Int×List Bool:=(List.range n).foldl (Qc b) ([],l,ds)
theorem Va (b n:Nat) (l:List Int) (ds:List Bool):QM b (n+1) l ds=Qc b (QM b n l ds) n:=by simp[QM,List.range_succ]
theorem Zm (l:List Int) (ds:List Bool) (i:Nat) (z:Int):(ZJ l ds i z).length=ds.length:=by unfold ZJ;split <;> simp
theorem QT (b n:Nat) (l:List Int) (ds:List Bool):(QM b n l ds).2.1.length=l.length∧(QM b n l ds).2.2.length=ds.length:=by
 induction n with
 | zero=>exact⟨rfl,rfl⟩
 | succ n ih=>rw[Va];simp[Qc,Zm,ih]
theorem XAz (w:World) (n:Nat) (h1:1≤n) (h2:n≤64) :
 Calls Tryz.prog 129 #[.int .i64 (n:Nat)] w fun e w'=>∃ m F,e=.returned (.pointer (some ⟨m,0,none⟩))∧ImageAt w' w.heap.size m F ⟨List.replicate n 0,List.replicate (pgs n) false,List.replicate n (-1),List.replicate (pgs n) false⟩∧Keep [] w w':=by
 have hA:=KAa n 0 h1 h2 w
 have hB:=fun W=>KAa n (-1) h1 h2 W
 have q1:(1:Int)≤(n:Nat):=by omega
 have q2:((n:Nat):Int)≤64:=by omega
 go_enter Tryz.func129,Tryz.ntmps129
 go_wp2_with (first | (refine hA.mono ?_;clear hA;rintro e w1 ⟨p1,F1,rfl,hp1,hk1⟩) | (refine(hB _).mono ?_;rintro e w2 ⟨p2,F2,rfl,hp2,hk2⟩))
 go_ret
 have hk:Keep [] w w2:=hk1.trans0 hk2
 have hp1':=hp1.keep0 hk2
 refine⟨_,_,rfl,⟨p1,p2,F1,F2,Blk.new _ _ _,hp1'.keep0 ((Keep.refl _ _).alloc _),?_,?_,fun hm=>?_,fun hm=>?_,rfl,hk.size,?_⟩,hk.alloc _⟩
 · obtain⟨L,U,q⟩:=hp2.keep0 ((Keep.refl _ _).alloc (.cells #[.pointer (some ⟨p1,0,none⟩),.pointer (some ⟨p2,0,none⟩)] 215))
   exact⟨L,U,q.blk,VC q.rl hk1.size,VC q.rd hk1.size,q.foot,Nat.le_trans hk1.size q.base,q.pos,q.few,q.pages⟩
 · exact Apart.new (n:=w1.heap.size) hp1.lt hp2.ge
 · exact absurd (hp1'.lt _ hm) (by omega)
 · exact absurd (hp2.lt _ hm) (by omega)
 · refine⟨by simp,fun x hx=>?_,fun x hx=>?_⟩
   · have:=List.eq_of_mem_replicate hx;omega
   · have:=List.eq_of_mem_replicate hx;omega
end
section
open Go.RowKit
structure PRD where
 n:Nat
 sv:List Value
 hs:List (Nat×Value)
 lv:List Value
 asked:Nat
def hdc (q:Nat×Value):List Value:=[.int .i64 q.1,q.2]
theorem Yr (q:Nat×Value):(hdc q).length=2:=rfl
structure RDkIs (w:World) (base d:Nat) (S H U L:Value) (F:List Nat) (R:PRD):Prop where
 blk:Blk w d 177 #[S,H,U,.int .i64 (-1),.bool false,.int .i64 R.asked,L]
 safe:w.ownsRow base 39 1 S R.n R.sv
 held:w.ownsRow base 256 2 H R.hs.length (R.hs.flatMap hdc)
 flt:w.ownsRow base 4 1 U R.n (List.replicate R.n (.bool false))
 laid:w.ownsRow base 39 1 L R.lv.length R.lv
 ne:S.ownBlock≠L.ownBlock
 foot:F=d :: (S.ownBlock.toList++(H.ownBlock.toList++(U.ownBlock.toList++L.ownBlock.toList)))
 base:base≤d
 pos:0<R.n
 few:R.n≤4096
 ats:∀ p∈R.hs,p.1<R.n∧∃ A n c,p.2=.slice A n c
 hfew:R.hs.length≤R.asked∧R.lv.length≤100000
def RDkAt (w:World) (base d:Nat) (F:List Nat) (R:PRD):Prop:=∃ S H U L,RDkIs w base d S H U L F R
namespace RDkIs
variable {w w':World} {base d:Nat} {S H U L:Value} {F l:List Nat} {R:PRD}
theorem keep (h:RDkIs w base d S H U L F R) (hk:Keep l w w') (ha:Apart F l):RDkIs w' base d S H U L F R:=by
 have hf:=h.foot
 refine⟨h.blk.keep hk (ha d (by simp[hf])),KA h.safe hk fun g hg=>ha g (by simp[hf,hg]),KA h.held hk fun g hg=>ha g (by simp[hf,hg]),KA h.flt hk fun g hg=>ha g (by simp[hf,hg]),
  KA h.laid hk fun g hg=>ha g (by simp[hf,hg]),h.ne,hf,h.base,h.pos,h.few,h.ats,h.hfew⟩
theorem keep0 (h:RDkIs w base d S H U L F R) (hk:Keep [] w w'):RDkIs w' base d S H U L F R:=h.keep hk Apart.nil_right
theorem lt (h:RDkIs w base d S H U L F R):∀ x∈F,x<w.heap.size:=by
 rw[h.foot]
 intro x hx
 simp only[List.mem_cons,List.mem_append] at hx
 rcases hx with rfl | hx | hx | hx | hx
 · exact h.blk.lt
 · exact(own_mem h.safe hx).2
 · exact(own_mem h.held hx).2
 · exact(own_mem h.flt hx).2
 · exact(own_mem h.laid hx).2
theorem ge (h:RDkIs w base d S H U L F R):∀ x∈F,base≤x:=by
 rw[h.foot]
 intro x hx
 simp only[List.mem_cons,List.mem_append] at hx
 rcases hx with rfl | hx | hx | hx | hx
 · exact h.base
 · exact(own_mem h.safe hx).1
 · exact(own_mem h.held hx).1
 · exact(own_mem h.flt hx).1
 · exact(own_mem h.laid hx).1
theorem dS (h:RDkIs w base d S H U L F R):d∉S.ownBlock.toList:=fun hm=>own_blk_ne h.safe h.blk (by decide) (by simpa using hm)
theorem dH (h:RDkIs w base d S H U L F R):d∉H.ownBlock.toList:=fun hm=>own_blk_ne h.held h.blk (by decide) (by simpa using hm)
theorem dU (h:RDkIs w base d S H U L F R):d∉U.ownBlock.toList:=fun hm=>own_blk_ne h.flt h.blk (by decide) (by simpa using hm)
theorem dL (h:RDkIs w base d S H U L F R):d∉L.ownBlock.toList:=fun hm=>own_blk_ne h.laid h.blk (by decide) (by simpa using hm)
theorem setBlk (h:RDkIs w base d S H U L F R) (hk:Keep [d] w w') (a:Nat) (ha:R.asked≤a) (hb:Blk w' d 177 #[S,H,U,.int .i64 (-1),.bool false,.int .i64 a,L]):RDkIs w' base d S H U L F { R with asked:=a }:=
 ⟨hb,KA h.safe hk (fun g hg=>by simp;rintro rfl;exact h.dS (by simpa using hg)),KA h.held hk (fun g hg=>by simp;rintro rfl;exact h.dH (by simpa using hg)),
   KA h.flt hk (fun g hg=>by simp;rintro rfl;exact h.dU (by simpa using hg)),KA h.laid hk (fun g hg=>by simp;rintro rfl;exact h.dL (by simpa using hg)),h.ne,h.foot,h.base,h.pos,h.few,h.ats,⟨Nat.le_trans h.hfew.1 ha,h.hfew.2⟩⟩
end RDkIs
namespace RDkAt
variable {w w':World} {base d:Nat} {F l:List Nat} {R:PRD}
theorem keep (h:RDkAt w base d F R) (hk:Keep l w w') (ha:Apart F l):RDkAt w' base d F R:=by
 obtain⟨S,H,U,L,h⟩:=h;exact⟨S,H,U,L,h.keep hk ha⟩
theorem keep0 (h:RDkAt w base d F R) (hk:Keep [] w w'):RDkAt w' base d F R:=h.keep hk Apart.nil_right
theorem lt (h:RDkAt w base d F R):∀ x∈F,x<w.heap.size:=by obtain⟨S,H,U,L,h⟩:=h;exact h.lt
theorem ge (h:RDkAt w base d F R):∀ x∈F,base≤x:=by obtain⟨S,H,U,L,h⟩:=h;exact h.ge
end RDkAt
theorem JF {w:World} {g:Nat} {t:TypeId} {x0 x1 x2 x3 x4 x5 x6:Value} (h:Blk w g t #[x0,x1,x2,x3,x4,x5,x6]) :
 w.cell? ⟨g,0,none⟩=some x0∧w.cell? ⟨g,1,none⟩=some x1∧w.cell? ⟨g,2,none⟩=some x2∧w.cell? ⟨g,3,none⟩=some x3∧w.cell? ⟨g,4,none⟩=some x4∧w.cell? ⟨g,5,none⟩=some x5∧w.cell? ⟨g,6,none⟩=some x6:=
 ⟨by simpa using h.cell 0,by simpa using h.cell 1,by simpa using h.cell 2,by simpa using h.cell 3,by simpa using h.cell 4,by simpa using h.cell 5,by simpa using h.cell 6⟩
theorem elemHeld:ElemN Tryz.prog 175 256 (.agg #[.int .i64 0,.slice none 0 0]) 2 32:=ElemN.of Tryz.underlying175 (by kernel_rfl) rfl (by omega)
theorem ZAg (w:World) (base d:Nat) (S H U L:Value) (F:List Nat) (R:PRD) (h:RDkIs w base d S H U L F R) (ha:R.asked≤1000000000) :
 Calls Tryz.prog 265 #[.pointer (some ⟨d,0,none⟩)] w fun e w'=>e=.returned (.bool true)∧RDkIs w' base d S H U L F { R with asked:=R.asked+1 }∧Keep [d] w w':=by
 obtain⟨c0,c1,c2,c3,c4,c5,c6⟩:=JF h.blk
 have q5:=h.blk.frozen 5
 have hk:Keep [d] w (w.setCell ⟨d,5,none⟩ (.int .i64 (R.asked+1:Nat))):=(Keep.refl [d] w).setCell (p:=⟨d,5,none⟩) (.inl (by simp)) _
 have hres:=h.setBlk hk (R.asked+1) (Nat.le_succ _) (by simpa using h.blk.set 5 (.int .i64 (R.asked+1:Nat)))
 clear h
 go_enter Tryz.func265,Tryz.ntmps265
 go_wp2
 go_ret
 exact⟨rfl,by simpa using hres,by simpa using hk⟩
theorem RDkIs.setHeld {w w2:World} {base d:Nat} {S H U L:Value} {F:List Nat} {R:PRD} (h:RDkIs w base d S H U L F R) (hk:Keep H.ownBlock.toList w w2) (H':Value) (q:Nat×Value)
 (hH:w2.ownsRow base 256 2 H' (R.hs.length+1) (R.hs.flatMap hdc++hdc q)) (N:Nat) (hN:w.heap.size≤N) (hb:H'.ownBlock=H.ownBlock∨H'.ownBlock=some N) (hq:q.1<R.n∧∃ A n c,q.2=.slice A n c) (ha:R.hs.length+1≤R.asked) :
 ∃ F',RDkIs (w2.setCell ⟨d,1,none⟩ H') base d S H' U L F' { R with hs:=R.hs++[q] }∧Keep F w (w2.setCell ⟨d,1,none⟩ H')∧Grow w F F':=by
 have hf:=h.foot
 have hkd:Keep [d] w2 (w2.setCell ⟨d,1,none⟩ H'):=(Keep.refl _ _).setCell (p:=⟨d,1,none⟩) (.inl (by simp)) _
 have hdH:d∉H.ownBlock.toList:=h.dH
 have hb2:=(h.blk.keep hk hdH).set 1 H'
 have ho:∀ {e:TypeId} {s n:Nat} {v:Value} {xs:List Value},w.ownsRow base e s v n xs→e≠256→d∉v.ownBlock.toList→(w2.setCell ⟨d,1,none⟩ H').ownsRow base e s v n xs:=fun hv he hd=>
  KA (KA hv hk (fun x hx hm=>own_ne hv h.held he hx (by simpa using hm))) hkd (fun x hx=>by simp;rintro rfl;exact hd (by simpa using hx))
 have hdH':d∉H'.ownBlock.toList:=fun hm=>by
  rcases hb with e | e
  · rw[e] at hm;exact hdH hm
  · rw[e] at hm;simp at hm;have:=h.blk.lt;omega
 refine⟨_,⟨by simpa using hb2,ho h.safe (by decide) h.dS,?_,ho h.flt (by decide) h.dU,ho h.laid (by decide) h.dL,h.ne,rfl,h.base,h.pos,h.few,?_,⟨by simpa using ha,h.hfew.2⟩⟩,?_,?_⟩
 · have:=KA hH hkd (fun x hx=>by simp;rintro rfl;exact hdH' (by simpa using hx))
   simpa using this
 · intro p hp
   simp only[List.mem_append,List.mem_singleton] at hp
   rcases hp with hp | rfl
   · exact h.ats p hp
   · exact hq
 · exact(hk.sub (fun x hx=>by rw[hf];simp at hx;simp[hx])).trans (hkd.sub (m:=F) (fun x hx=>by rw[hf];simp at hx;simp[hx])) (fun x hx=>.inl hx)
 · intro x hx
   simp only[List.mem_cons,List.mem_append] at hx
   rw[hf]
   simp only[List.mem_cons,List.mem_append]
   rcases hx with hx | hx | hx | hx | hx
   · simp[hx]
   · simp[hx]
   · rcases hb with e | e
     · rw[e] at hx;simp[hx]
     · rw[e] at hx;simp at hx;right;omega
   · simp[hx]
   · simp[hx]
theorem Xo (w:World) (base d:Nat) (F:List Nat) (R:PRD) (h:RDkAt w base d F R) (ha:R.asked≤1000000) (k:Nat) (hk:k<R.n) (A:Option Addr) (c:Nat) (bs:List UInt8)
 (hb:Rd w A 64 (bys bs)) (hc:64≤c) (hA:∀ a,A=some a→a.block∉F) (hbase:base≤w.heap.size) :
 Calls Tryz.prog 237 #[.pointer (some ⟨d,0,none⟩),.int .i64 (k:Nat),.slice A 64 c] w fun e w'=>e=.returned (.int .i64 0)∧∃ F' R',RDkAt w' base d F' R'∧R'.n=R.n∧R'.asked=R.asked+1∧R'.lv=R.lv∧Keep F w w'∧Grow w F F':=by
 obtain⟨S,H,U,L,h⟩:=h
 obtain⟨g,nc,rfl,hnc,hc63⟩:=QD h.safe h.pos
 have hfew:=h.few
 have hpos:=h.pos
 have hW:=fun W=>ZE (k:Nat) 0 ((R.n:Nat)-1) true (by simp;omega) W
 have hT:=ZAg w base d _ H U L F R h (by omega)
 obtain⟨c0,c1,c2,c3,c4,c5,c6⟩:=JF h.blk
 go_enter Tryz.func237,Tryz.ntmps237
 go_wp2_with (first | (go_at_call 226;refine(hW _).mono ?_;clear hW;rintro e w' ⟨rfl,rfl⟩) | (refine hT.mono ?_;clear hT;rintro e w1 ⟨rfl,h1,hk1⟩))
 have hF1:Keep F w w1:=hk1.sub (fun x hx=>by rw[h.foot];simp at hx;simp[hx])
 have hb1:=hb.keepIf hF1 hA
 have k1:=(JF h1.blk).2.1
 have hP:=JAJ A 64 c bs 0 64 w1.drew hb1.drew (by omega) (by omega) (by omega) hc (by omega)
 refine ZT (fun w'=>w'.cell? ⟨d,1,none⟩=some H) 13 [[0,1,2,3,4,5,6,7,8],[9,10],[11],[12]] k1 ?_
 simp only[PI]
 iterate 9 (refine ZH ?_;simp only[Act.put,PU])
 refine XB (by rfl) (fun K hK=>?_)
 go_wp2_with (refine hP.mono ?_;clear hP;rintro e w2 ⟨u,rfl,hu,hk2⟩)
 have hkB:Keep [] w1 w2:=(Keep.refl _ _).drew.trans0 hk2
 obtain⟨UA,uc,rfl,_⟩:=QB hu
 refine hK _ _ ((JF (h1.keep0 hkB).blk).2.1) ?_
 clear hK K
 try simp only[Act.put,PU]
 iterate 1 (refine ZH ?_;simp only[Act.put,PU])
 refine XB (by rfl) (fun K hK=>?_)
 go_wp2_with fail
 have hrd:=Rd.of_blk (n:=2) (Blk.new w2 256 #[.int .i64 k,.slice UA 64 uc]) (by simp)
 rw[List.take_of_length_le (by simp)] at hrd
 have hkC:Keep [] w1 (w2.alloc (.cells #[.int .i64 k,.slice UA 64 uc] 256)):=hkB.alloc _
 generalize hgn:w2.heap.size=n4 at *
 generalize w2.alloc (.cells #[.int .i64 k,.slice UA 64 uc] 256)=w3 at *
 refine hK _ _ ((JF (h1.keep0 hkC).blk).2.1) ?_
 clear hK K
 try simp only[Act.put,PU]
 refine XB (by rfl) (fun K hK=>?_)
 have hl9:R.hs.length≤1000000:=Nat.le_trans h.hfew.1 ha
 refine elemHeld.wp1_app (.tmp 28) (.tmp 35) (by rfl) base H R.hs.length (R.hs.flatMap hdc) (by rfl) (ZA h1.held hkC) ⟨n4,0,none⟩ 1 1 [.int .i64 k,.slice UA 64 uc] (by rfl) hrd (fun u hu=>by simp at hu;rcases hu with rfl | rfl <;> rfl) (by omega) (by omega) (Nat.le_trans hbase (Nat.le_trans hk1.size hkC.size)) ?_
 intro H' w4 hH' hk4 hHb _
 have hk14:Keep H.ownBlock.toList w1 w4:=hkC.zero.trans hk4 (fun x hx=>.inl hx)
 have hdH:d∉H.ownBlock.toList:=h1.dH
 have hblk4:=h1.blk.keep hk14 hdH
 refine hK _ _ ((JF hblk4).2.1) ?_
 clear hK K
 try simp only[Act.put,PU]
 refine JB ?_
 have q1:=hblk4.frozen 1
 have j1:=(JF hblk4).2.1
 obtain⟨F',hres,hkF,hgF⟩:=h1.setHeld hk14 H' (k,.slice UA 64 uc) hH' w3.heap.size hkC.size hHb ⟨hk,_,_,_,rfl⟩ (by have:=h.hfew.1;simp only;omega)
 obtain⟨A',c',rfl,_⟩:=QB hH'
 go_wp2_with fail
 go_ret
 exact⟨rfl,F',_,⟨_,_,_,_,hres⟩,rfl,rfl,rfl,hF1.trans hkF (fun x hx=>.inl hx),hgF.keep hk1⟩
end
section
open Go.RowKit
theorem RDkIs.setLaid {w w2:World} {base d:Nat} {S H U L:Value} {F:List Nat} {R:PRD} (h:RDkIs w base d S H U L F R) (hk:Keep L.ownBlock.toList w w2) (L':Value) (q:Value)
 (hL:w2.ownsRow base 39 1 L' (R.lv.length+1) (R.lv++[q])) (N:Nat) (hN:w.heap.size≤N) (hb:L'.ownBlock=L.ownBlock∨L'.ownBlock=some N) (ha:R.lv.length+1≤100000) :
 ∃ F',RDkIs (w2.setCell ⟨d,6,none⟩ L') base d S H U L' F' { R with lv:=R.lv++[q] }∧Keep F w (w2.setCell ⟨d,6,none⟩ L')∧Grow w F F':=by
 have hf:=h.foot
 have hkd:Keep [d] w2 (w2.setCell ⟨d,6,none⟩ L'):=(Keep.refl _ _).setCell (p:=⟨d,6,none⟩) (.inl (by simp)) _
 have hdL:d∉L.ownBlock.toList:=h.dL
 have hb2:=(h.blk.keep hk hdL).set 6 L'
 have ho:∀ {e:TypeId} {s n:Nat} {v:Value} {xs:List Value},w.ownsRow base e s v n xs→e≠39→d∉v.ownBlock.toList→(w2.setCell ⟨d,6,none⟩ L').ownsRow base e s v n xs:=fun hv he hd=>
  KA (KA hv hk (fun x hx hm=>own_ne hv h.laid he hx (by simpa using hm))) hkd (fun x hx=>by simp;rintro rfl;exact hd (by simpa using hx))
 have hdL':d∉L'.ownBlock.toList:=fun hm=>by
  rcases hb with e | e
  · rw[e] at hm;exact hdL hm
  · rw[e] at hm;simp at hm;have:=h.blk.lt;omega
 obtain⟨sg,sc,hS,_⟩:=QD h.safe h.pos
 have hsb:S.ownBlock=some sg:=by rw[hS];rfl
 have hsg:sg<w.heap.size:=YY h.safe sg (by rw[hsb];simp)
 have hsL:sg∉L.ownBlock.toList:=fun hm=>h.ne (by rw[hsb];simp at hm;exact hm.symm)
 refine⟨_,⟨by simpa using hb2,?_,ho h.held (by decide) h.dH,ho h.flt (by decide) h.dU,?_,?_,rfl,h.base,h.pos,h.few,h.ats,⟨h.hfew.1,by simpa using ha⟩⟩,?_,?_⟩
 · exact KA (KA h.safe hk (fun x hx hm=>by rw[hsb] at hx;cases hx;exact hsL hm)) hkd (fun x hx=>by simp;rintro rfl;exact h.dS (by simpa using hx))
 · have:=KA hL hkd (fun x hx=>by simp;rintro rfl;exact hdL' (by simpa using hx))
   simpa using this
 · intro e
   rcases hb with e2 | e2
   · exact h.ne (e.trans e2)
   · rw[hsb,e2] at e
     injection e with e
     omega
 · exact(hk.sub (fun x hx=>by rw[hf];simp at hx;simp[hx])).trans (hkd.sub (m:=F) (fun x hx=>by rw[hf];simp at hx;simp[hx])) (fun x hx=>.inl hx)
 · intro x hx
   simp only[List.mem_cons,List.mem_append] at hx
   rw[hf]
   simp only[List.mem_cons,List.mem_append]
   rcases hx with hx | hx | hx | hx | hx
   · simp[hx]
   · simp[hx]
   · simp[hx]
   · simp[hx]
   · rcases hb with e | e
     · rw[e] at hx;simp[hx]
     · rw[e] at hx;simp at hx;right;omega
theorem QAq (w:World) (base d:Nat) (F:List Nat) (R:PRD) (h:RDkAt w base d F R) (ha:R.lv.length≤1000) (A:Option Addr) (n c:Nat) (hbase:base≤w.heap.size) :
 Calls Tryz.prog 162 #[.pointer (some ⟨d,0,none⟩),.slice A n c] w fun e w'=>e=.returned (.tuple #[])∧∃ F' R',RDkAt w' base d F' R'∧R'.n=R.n∧R'.asked=R.asked∧R'.lv.length=R.lv.length+1∧Keep F w w'∧Grow w F F':=by
 obtain⟨S,H,U,L,h⟩:=h
 obtain⟨c0,c1,c2,c3,c4,c5,c6⟩:=JF h.blk
 have hkA:Keep [] w (w.alloc (.cells #[.slice A n c] 39)):=(Keep.refl _ _).alloc _
 go_enter Tryz.func162,Tryz.ntmps162
 go_wp2_with (at_builtin;refine elemRows.wp_app rfl (.tmp 8) (.tmp 10) rfl base L R.lv.length R.lv rfl (YD h.laid _) (some ⟨w.heap.size,0,none⟩) 1 1 [.slice A n c] rfl (KO w (.slice A n c) 39) (by simp[Value.oneCell']) (by omega) (by omega) (Nat.le_trans hbase hkA.size) ?_)
 rintro L' w2 hL' hk2 hb2 _
 have hk12:Keep L.ownBlock.toList w w2:=hkA.zero.trans hk2 (fun x hx=>.inl hx)
 have hblk2:=h.blk.keep hk12 h.dL
 have q6:=hblk2.frozen 6
 have j6:=(JF hblk2).2.2.2.2.2.2
 obtain⟨F',hres,hkF,hgF⟩:=h.setLaid hk12 L' (.slice A n c) hL' (w.heap.size+1) (by omega) hb2 (by omega)
 obtain⟨A',c',rfl,_⟩:=QB hL'
 go_wp2_with fail
 refine bodyPost_end (v:=.tuple #[]) (by simp[results,Tryz.results162,go_sem]) rfl ?_
 exact⟨rfl,F',_,⟨_,_,_,_,hres⟩,rfl,rfl,by simp,hkF,hgF⟩
theorem QAY (w:World) (base d:Nat) (F:List Nat) (R:PRD) (h:RDkAt w base d F R) (ha:R.asked≤1000000) :
 Calls Tryz.prog 156 #[.pointer (some ⟨d,0,none⟩)] w fun e w'=>e=.returned (.int .i64 0)∧Keep F w w':=by
 obtain⟨S,H,U,L,h⟩:=h
 obtain⟨sg,sc,rfl,hsc,hc63⟩:=QD h.safe h.pos
 have hT:=ZAg w base d _ H U L F R h (by omega)
 have hfoot:=h.foot
 have hats:=h.ats
 have hhf:=h.hfew.1
 go_enter Tryz.func156,Tryz.ntmps156
 go_wp2_with (refine hT.mono ?_;clear hT;rintro e w1 ⟨rfl,h1,hk1⟩)
 have hF1:Keep F w w1:=hk1.sub (fun x hx=>by rw[hfoot];simp at hx;simp[hx])
 have hd1:d∉(Value.slice (some ⟨sg,0,none⟩) R.n sc).ownBlock.toList:=h1.dS
 have hdH:=h1.dH
 have hb1:=h1.blk
 have hs1:=h1.safe
 have hh1:=h1.held
 simp only at hb1 hs1 hh1
 obtain⟨HA,hc,rfl,_⟩:=QB hh1
 clear h1 hk1 h
 go_loopw [3] (fun i wr=>∃ (k:Nat) (sv:List Value),k≤R.hs.length∧i=.int .i64 (k:Nat)∧Blk wr d 177 #[.slice (some ⟨sg,0,none⟩) R.n sc,.slice HA R.hs.length hc,U,.int .i64 (-1),.bool false,.int .i64 (R.asked+1:Nat),L] ∧
  wr.ownsRow base 39 1 (.slice (some ⟨sg,0,none⟩) R.n sc) R.n sv∧wr.ownsRow base 256 2 (.slice HA R.hs.length hc) R.hs.length (R.hs.flatMap hdc)∧Keep F w wr) (fun i _=>R.hs.length-(intOf i).toNat)
 case atStart=>exact⟨0,R.sv,Nat.zero_le _,rfl,hb1,hs1,hh1,hF1⟩
 case round=>
  clear hb1 hs1 hh1 hF1
  obtain⟨k,sv,hk,rfl,hbr,hsr,hhr,hFr⟩:=hrel
  obtain⟨c0,c1,c2,c3,c4,c5,c6⟩:=JF hbr
  by_cases hlt:k<R.hs.length
  · have hltI:((k:Nat):Int)<(R.hs.length:Nat):=by omega
    obtain⟨hg,hc',e',hcc,_⟩:=QD hhr (by omega)
    injection e' with e1 e2 e3
    subst e1 e3
    obtain⟨hat,hqA,hqn,hqc,hqe⟩:=hats R.hs[k] (List.getElem_mem _)
    have hx0:wr.cell? ⟨hg,k*2,none⟩=some (.int .i64 (R.hs[k].1:Nat)):=XE hhr (by rw[show k*2=k*2+0 from rfl,VO Yr R.hs k 0 hlt (by omega)];rfl)
    have hx1:wr.cell? ⟨hg,k*2+1,none⟩=some R.hs[k].2:=XE hhr (by rw[VO Yr R.hs k 1 hlt (by omega)];rfl)
    generalize R.hs[k]=q at *
    obtain⟨qa,qv⟩:=q
    simp only at hat hqe hx0 hx1
    subst hqe
    have hltJ:((qa:Nat):Int)<(R.n:Nat):=by omega
    have hlh:=Vw hhr
    have hls:=Vw hsr
    go_wp2_with fail
    refine ZT (fun w'=>w'.cell? ⟨d,0,none⟩=some (.slice (some ⟨sg,0,none⟩) R.n sc)∧w'.cell? ⟨d,1,none⟩=some (.slice (some ⟨hg,0,none⟩) R.hs.length hc)∧w'.cell? ⟨hg,k*2,none⟩=some (.int .i64 (qa:Nat))∧w'.cell? ⟨hg,k*2+1,none⟩=some (.slice hqA hqn hqc)) 20 [[0,1,2,3,4,5,6,7,8,9,10,11,12,13,14,15,16,17,18,19]] ⟨c0,c1,hx0,hx1⟩ ?_
    simp only[PI]
    iterate 20 (refine ZH ?_;simp only[Act.put,PU])
    refine JB ?_
    have hs2:=Xt hsr.drew qa (.slice hqA hqn hqc)
    have q0:=KS hsr.drew qa
    have hkS:Keep [sg] wr (wr.drew.setCell ⟨sg,qa,none⟩ (.slice hqA hqn hqc)):=(Keep.refl _ _).drew.setCell (.inl (by simp)) _
    obtain⟨u,hu⟩:∃ u,wr.drew.cell? ⟨sg,qa,none⟩=some u:=⟨_,XE hsr.drew (List.getElem?_eq_getElem (by rw[show sv.length=R.n by simpa using hsr.1];exact hat))⟩
    go_wp2_with fail
    go_roundw
    case rel=>exact⟨k+1,_,by omega,by go_num,hbr.keep hkS (by simp;rintro rfl;exact hd1 (by simp[Value.ownBlock])),hs2,KA hhr hkS (fun x hx hm=>by simp at hm;subst hm;exact own_ne hhr hsr (by decide) hx rfl),hFr.trans hkS (fun x hx=>.inl (by simp at hx;subst hx;rw[hfoot];simp[Value.ownBlock]))⟩
    case measure=>simp[intOf];omega
  · obtain rfl:R.hs.length=k:=by omega
    have q1:=hbr.frozen 1
    go_wp2_with fail
    go_ret
    exact⟨rfl,hFr.trans ((Keep.refl [d] wr).setCell (p:=⟨d,1,none⟩) (.inl (by simp)) _) (fun x hx=>.inl (by simp at hx;subst hx;rw[hfoot];simp))⟩
end
section
open Go.RowKit
def RDkNew (w:World) (base d:Nat) (F:List Nat) (n:Nat):Prop:=
 ∃ S U R,RDkIs w base d S (.slice none 0 0) U (.slice none 0 0) F R∧R.n=n∧R.hs=[]∧R.lv=[]∧R.asked=0∧∀ v∈R.sv,w.ownsRow base 5 1 v 64 (bys (List.replicate 64 0))
theorem RDkNew.keep0 {w w':World} {base d n:Nat} {F:List Nat} (h:RDkNew w base d F n) (hk:Keep [] w w'):RDkNew w' base d F n:=by
 obtain⟨S,U,R,h1,h2,h3,h4,h5,h6⟩:=h
 exact⟨S,U,R,h1.keep0 hk,h2,h3,h4,h5,fun v hv=>ZA (h6 v hv) hk⟩
theorem RDkNew.at_ {w:World} {base d n:Nat} {F:List Nat} (h:RDkNew w base d F n):∃ R,RDkAt w base d F R∧R.n=n∧R.lv=[]∧R.asked=0:=by
 obtain⟨S,U,R,h1,h2,h3,h4,h5,h6⟩:=h
 exact⟨R,⟨_,_,_,_,h1⟩,h2,h4,h5⟩
theorem JAa (w:World) (base d n:Nat) (F:List Nat) (h:RDkNew w base d F n) (k:Nat) (hk:k<n) :
 Calls Tryz.prog 233 #[.pointer (some ⟨d,0,none⟩),.int .i64 (k:Nat)] w fun e w'=>∃ u,e=.returned (.tuple #[u,.int .i64 0])∧w'.ownsRow w.heap.size 5 1 u 64 (bys (List.replicate 64 0))∧Keep [] w w':=by
 obtain⟨S,U,R,h,rfl,hhs,hlv,hask,hz⟩:=h
 obtain⟨sg,sc,rfl,hsc,hc63⟩:=QD h.safe h.pos
 obtain⟨ug,uc,rfl,huc,huc63⟩:=QD h.flt h.pos
 obtain⟨c0,c1,c2,c3,c4,c5,c6⟩:=JF h.blk
 have hpos:=h.pos
 have hfew:=h.few
 have hW:=fun W=>ZE (k:Nat) 0 ((R.n:Nat)-1) true (by simp;omega) W
 have hkI:((k:Nat):Int)<(R.n:Nat):=by omega
 have hcf:w.cell? ⟨ug,k,none⟩=some (.bool false):=XE h.flt (by rw[List.getElem?_replicate,if_pos hk])
 have hsl:k<R.sv.length:=by rw[show R.sv.length=R.n by simpa using h.safe.1];exact hk
 have hcs:w.cell? ⟨sg,k,none⟩=some R.sv[k]:=XE h.safe (List.getElem?_eq_getElem hsl)
 have hq:=hz R.sv[k] (List.getElem_mem _)
 generalize R.sv[k]=q at *
 obtain⟨qg,qc,rfl,hqc⟩:=ZG hq (by simp)
 have hP:=JAJ (some ⟨qg,0,none⟩) 64 qc (List.replicate 64 0) 0 64 w (Rd.of_own hq) (by omega) (by omega) (by omega) (by simpa using hqc) (by omega)
 clear hz hhs hlv hask hsl h
 go_enter Tryz.func233,Tryz.ntmps233
 go_wp2_with (first | (go_at_call 226;refine(hW _).mono ?_;clear hW;rintro e w' ⟨rfl,rfl⟩))
 go_loopw [6,7] (fun b i wr=>b=.slice (some ⟨qg,0,none⟩) 64 qc∧i=.int .i64 0∧wr=w) (fun _ _ _=>0)
 case atStart=>exact⟨by simp,rfl,rfl⟩
 case round=>
  obtain⟨rfl,rfl,rfl⟩:=hrel
  go_wp2_with (refine hP.mono ?_;clear hP;rintro e w1 ⟨u,rfl,hu,hk1⟩)
  go_ret2
  exact⟨_,rfl,by simpa using hu,hk1⟩
theorem elem8N:ElemN Tryz.prog 39 5 (.int .u8 0) 1 1:=ElemN.of Tryz.underlying39 (by kernel_rfl) rfl (by omega)
theorem XAD (n:Nat) (h0:0<n) (hn:n≤4096) (w:World) :
 Calls Tryz.prog 124 #[.int .i64 (n:Nat)] w fun e w'=>∃ d F,e=.returned (.pointer (some ⟨d,0,none⟩))∧RDkNew w' w.heap.size d F n∧Keep [] w w':=by
 have hW:=fun W=>ZE (n:Nat) 1 4096 true (by simp;omega) W
 go_enter Tryz.func124,Tryz.ntmps124
 go_wp2_with (first
  | (go_at_call 226;refine(hW _).mono ?_;clear hW;rintro e w' ⟨rfl,rfl⟩)
  | (at_make;refine elemBool.wp_make rfl _ _ rfl .i64 .i64 n rfl rfl (by omega) (by omega) ?_;intro w1 g1 hg1 hs1 hb1 hk1;subst hg1))
 have hflt:w1.ownsRow w.heap.size 4 1 (.slice (some ⟨w.heap.size,0,none⟩) n n) n (List.replicate n (.bool false)):=XL (e:=4) (s:=1) (z:=.bool false) hb1 (by omega) (by omega) (by omega) (by simp) rfl
 have hB:=Blk.new w1 177 #[.slice none 0 0,.slice none 0 0,.slice (some ⟨w.heap.size,0,none⟩) n n,.int .i64 (-1),.bool false,.int .i64 0,.slice none 0 0]
 have hkA:Keep [] w (w1.alloc (.cells #[.slice none 0 0,.slice none 0 0,.slice (some ⟨w.heap.size,0,none⟩) n n,.int .i64 (-1),.bool false,.int .i64 0,.slice none 0 0] 177)):=hk1.alloc _
 have hflt2:=YD hflt (.cells #[.slice none 0 0,.slice none 0 0,.slice (some ⟨w.heap.size,0,none⟩) n n,.int .i64 (-1),.bool false,.int .i64 0,.slice none 0 0] 177)
 have hbs:w.heap.size≤w1.heap.size:=hk1.size
 generalize hwA:w1.alloc (.cells #[.slice none 0 0,.slice none 0 0,.slice (some ⟨w.heap.size,0,none⟩) n n,.int .i64 (-1),.bool false,.int .i64 0,.slice none 0 0] 177)=wA at *
 rw[hs1] at hB hbs
 clear hflt hk1 hs1 hb1
 obtain⟨d,hd⟩:∃ d,d=w.heap.size+1:=⟨_,rfl⟩
 rw[← hd] at hB hbs
 go_wp2_with fail
 try rw[hwA]
 try rw[← hd]
 clear hwA
 have HD:=ZB hd
 clear hd
 go_loopw [4] (fun i wr=>∃ (k:Nat) (S:Value) (sv:List Value),k≤n∧i=.int .i64 (k:Nat)∧Blk wr d 177 #[S,.slice none 0 0,.slice (some ⟨w.heap.size,0,none⟩) n n,.int .i64 (-1),.bool false,.int .i64 0,.slice none 0 0] ∧
  wr.ownsRow w.heap.size 39 1 S k sv∧wr.ownsRow w.heap.size 4 1 (.slice (some ⟨w.heap.size,0,none⟩) n n) n (List.replicate n (.bool false))∧Hid (∀ v∈sv,wr.ownsRow w.heap.size 5 1 v 64 (bys (List.replicate 64 0)))∧Keep [] w wr) (fun i _=>n-(intOf i).toNat)
 case atStart=>exact⟨0,.slice none 0 0,[],Nat.zero_le _,rfl,hB,World.ownsRow_nil _ _ _ _,hflt2,(by show ∀ v∈([]:List Value),_;intro v hv;cases hv),hkA⟩
 case round=>
  clear hB hflt2 hkA
  obtain⟨k,S,sv,hk,rfl,hbr,hsr,hur,hzr,hkr⟩:=hrel
  obtain⟨c0,c1,c2,c3,c4,c5,c6⟩:=JF hbr
  by_cases hlt:k<n
  · have hltI:((k:Nat):Int)<(n:Nat):=by omega
    go_wp2_with fail
    refine ZT (fun w'=>w'.cell? ⟨d,0,none⟩=some S) 8 [[0,1,2,3,4],[5],[6],[7]] c0 ?_
    simp only[PI]
    iterate 5 (refine ZH ?_;simp only[Act.put,PU])
    refine XB (by rfl) (fun K hK=>?_)
    refine elem8N.wp1_make _ _ rfl .i64 .i64 64 rfl rfl (by omega) (by omega) ?_
    intro w2 g2 hg2 hs2 hb2 hk2
    obtain rfl:g2=wr.heap.size:=hg2
    clear hs2
    have hkB:Keep [] wr w2:=(Keep.refl _ _).drew.trans0 hk2
    have hz2:w2.ownsRow w.heap.size 5 1 (.slice (some ⟨wr.heap.size,0,none⟩) 64 64) 64 (bys (List.replicate 64 0)):=XL (e:=5) (s:=1) (z:=.int .u8 0) hb2 (by omega) hkr.size (by omega) (by simp[bys,by8]) rfl
    refine hK _ _ ((JF (hbr.keep0 hkB)).1) ?_
    clear hK K
    try simp only[Act.put,PU]
    refine XB (by rfl) (fun K hK=>?_)
    go_wp2_with fail
    have hrd:=KO w2 (Value.slice (some ⟨wr.heap.size,0,none⟩) 64 64) 39
    have hkC:Keep [] wr (w2.alloc (.cells #[Value.slice (some ⟨wr.heap.size,0,none⟩) 64 64] 39)):=hkB.alloc _
    have hz3:=YD hz2 (.cells #[Value.slice (some ⟨wr.heap.size,0,none⟩) 64 64] 39)
    generalize w2.alloc (.cells #[Value.slice (some ⟨wr.heap.size,0,none⟩) 64 64] 39)=w3 at *
    generalize w2.heap.size=n4 at *
    refine hK _ _ ((JF (hbr.keep0 hkC)).1) ?_
    clear hK K
    try simp only[Act.put,PU]
    refine XB (by rfl) (fun K hK=>?_)
    refine elemRows.wp1_app (.tmp 21) (.tmp 23) (by rfl) w.heap.size S k sv (by rfl) (ZA hsr hkC) (some ⟨n4,0,none⟩) 1 1 [Value.slice (some ⟨wr.heap.size,0,none⟩) 64 64] (by rfl) hrd (by simp[Value.oneCell']) (by omega) (by omega) (Nat.le_trans hkr.size hkC.size) ?_
    intro S' w4 hS' hk4 hSb _
    have hdS:d∉S.ownBlock.toList:=fun hm=>own_blk_ne hsr hbr (by decide) (by simpa using hm)
    have hblk4:=(hbr.keep0 hkC).keep hk4 hdS
    refine hK _ _ ((JF hblk4).1) ?_
    clear hK K
    try simp only[Act.put,PU]
    refine JB ?_
    have f0:=hblk4.frozen 0
    have j0:=(JF hblk4).1
    have hb5:=hblk4.set 0 S'
    have hk5:Keep [d] w4 (w4.setCell ⟨d,0,none⟩ S'):=(Keep.refl _ _).setCell (p:=⟨d,0,none⟩) (.inl (by simp)) _
    have hdS':d∉S'.ownBlock.toList:=fun hm=>by
     rcases hSb with e | e
     · rw[e] at hm;exact hdS hm
     · rw[e] at hm;simp at hm;have:=hbr.lt;have:=hkC.size;omega
    have hst:∀ {e:TypeId} {s n:Nat} {v:Value} {xs:List Value},w3.ownsRow w.heap.size e s v n xs→e≠39→e≠177→(w4.setCell ⟨d,0,none⟩ S').ownsRow w.heap.size e s v n xs:=fun hv he he2=>
     KA (KA hv hk4 (fun x hx hm=>own_ne hv (ZA hsr hkC) he hx (by simpa using hm))) hk5 (fun x hx hm=>by simp at hm;subst hm;exact own_blk_ne hv (hbr.keep0 hkC) he2 hx)
    have hu5:=hst (ZA hur hkC) (by decide) (by decide)
    have hz5:=hst hz3 (by decide) (by decide)
    have hzz:Hid (∀ v∈sv,(w4.setCell ⟨d,0,none⟩ S').ownsRow w.heap.size 5 1 v 64 (bys (List.replicate 64 0))):=fun v hv=>hst (ZA (QA hzr v hv) hkC) (by decide) (by decide)
    have hS5:=KA hS' hk5 (fun x hx hm=>by simp at hm;subst hm;exact hdS' (by simpa using hx))
    have hkZ:Keep [] w (w4.setCell ⟨d,0,none⟩ S'):=((hkr.trans0 hkC).trans hk4 (fun x hx=>.inr (own_mem hsr hx).1)).trans hk5 (fun x hx=>.inr (by simp at hx;omega))
    obtain⟨SA,sc,rfl,_⟩:=QB hS'
    go_wp2_with fail
    go_roundw
    case rel=>exact⟨k+1,_,_,by omega,by go_num,by simpa using hb5,hS5,hu5,fun v hv=>by
     simp only[List.mem_append,List.mem_singleton] at hv
     rcases hv with hv | rfl
     · exact QA hzz v hv
     · exact hz5,hkZ⟩
    case measure=>simp[intOf];omega
  · obtain rfl:n=k:=by omega
    go_wp2_with fail
    go_ret
    obtain⟨sg,sc,rfl,_⟩:=QD hsr h0
    exact⟨d,_,rfl,⟨_,_,⟨n,sv,[],[],0⟩,⟨hbr,hsr,World.ownsRow_nil _ _ _ _,hur,World.ownsRow_nil _ _ _ _,by simp[Value.ownBlock],rfl,hbs,h0,hn,by simp,⟨Nat.zero_le _,Nat.zero_le _⟩⟩,rfl,rfl,rfl,rfl,QA hzr⟩,hkr⟩
end
end Go.Proofs.YthgphmfipnjllaaGreat
