/- Lemmas of the proof, with their conditions. -/
import Derived.Test.YthgphmfipnjllaaGreatV04
import Derived.Test.YthgphmfipnjllaaGreatV11
namespace Go.Proofs.YthgphmfipnjllaaGreat
set_option linter.unusedSimpArgs false
set_option linter.unusedVariables false
set_option maxHeartbeats 2000000
section
open Go.RowKit
def Jk (u:Nat×Nat):List Value:=[.int .i64 u.1,.int .i64 u.2]
theorem XG (u:Nat×Nat):(Jk u).length=2:=rfl
structure TableIs (w:World) (base t g:Nat) (L V:Value) (F:List Nat) (us:List (Nat×Nat)) (lv:List Nat):Prop where
 blk:Blk w t 154 #[.pointer (some ⟨g,0,none⟩),L,V]
 l:w.ownsRow base 166 2 L 8 (us.flatMap Jk)
 live:w.ownsRow base 3 1 V 8 (ZP lv)
 foot:F=t :: (L.ownBlock.toList++V.ownBlock.toList)
 base:base≤t
 ulen:us.length=8
 uok:∀ u∈us,u.1≤2∧u.2≤2147483647
 lok:∀ x∈lv,x≤2147483647
def TableAt (w:World) (base t g:Nat) (F:List Nat) (us:List (Nat×Nat)) (lv:List Nat):Prop:=∃ L V,TableIs w base t g L V F us lv
namespace TableIs
variable {w w':World} {base t g:Nat} {L V:Value} {F l:List Nat} {us:List (Nat×Nat)} {lv:List Nat}
theorem keep (h:TableIs w base t g L V F us lv) (hk:Keep l w w') (ha:Apart F l):TableIs w' base t g L V F us lv:=by
 have hf:=h.foot
 exact⟨h.blk.keep hk (ha t (by simp[hf])),KA h.l hk fun g hg=>ha g (by simp[hf,hg]),KA h.live hk fun g hg=>ha g (by simp[hf,hg]),hf,h.base,h.ulen,h.uok,h.lok⟩
theorem keep0 (h:TableIs w base t g L V F us lv) (hk:Keep [] w w'):TableIs w' base t g L V F us lv:=h.keep hk Apart.nil_right
theorem lt (h:TableIs w base t g L V F us lv):∀ x∈F,x<w.heap.size:=by
 rw[h.foot]
 intro x hx
 simp only[List.mem_cons,List.mem_append] at hx
 rcases hx with rfl | hx | hx
 · exact h.blk.lt
 · exact(own_mem h.l hx).2
 · exact(own_mem h.live hx).2
theorem ge (h:TableIs w base t g L V F us lv):∀ x∈F,base≤x:=by
 rw[h.foot]
 intro x hx
 simp only[List.mem_cons,List.mem_append] at hx
 rcases hx with rfl | hx | hx
 · exact h.base
 · exact(own_mem h.l hx).1
 · exact(own_mem h.live hx).1
theorem tL (h:TableIs w base t g L V F us lv):t∉L.ownBlock.toList:=fun hm=>own_blk_ne h.l h.blk (by decide) (by simpa using hm)
theorem tV (h:TableIs w base t g L V F us lv):t∉V.ownBlock.toList:=fun hm=>own_blk_ne h.live h.blk (by decide) (by simpa using hm)
theorem llen (h:TableIs w base t g L V F us lv):lv.length=8:=by simpa using h.live.1
theorem forms (h:TableIs w base t g L V F us lv):∃ l lc v vc,L=.slice (some ⟨l,0,none⟩) 8 lc∧V=.slice (some ⟨v,0,none⟩) 8 vc∧l≠v∧t≠l∧t≠v:=by
 obtain⟨l,lc,rfl,_⟩:=QD h.l (by omega)
 obtain⟨v,vc,rfl,_⟩:=QD h.live (by omega)
 exact⟨l,lc,v,vc,rfl,rfl,fun e=>own_ne h.l h.live (by decide) rfl (by simp[Value.ownBlock,e]),fun e=>h.tL (by simp[Value.ownBlock,e]),fun e=>h.tV (by simp[Value.ownBlock,e])⟩
theorem cells (h:TableIs w base t g L V F us lv):w.cell? ⟨t,0,none⟩=some (.pointer (some ⟨g,0,none⟩))∧w.cell? ⟨t,1,none⟩=some L∧w.cell? ⟨t,2,none⟩=some V:=
 ⟨by simpa using h.blk.cell 0,by simpa using h.blk.cell 1,by simpa using h.blk.cell 2⟩
end TableIs
section
variable {w w':World} {base t g l lc v vc:Nat} {F:List Nat} {us:List (Nat×Nat)} {lv:List Nat}
theorem TableIs.setUse (h:TableIs w base t g (.slice (some ⟨l,0,none⟩) 8 lc) (.slice (some ⟨v,0,none⟩) 8 vc) F us lv) (s j:Nat) (hs:s<8) (hj:j<2) (x:Nat) (y:Nat×Nat) (hy:(Jk (us[s]'(by rw[h.ulen];exact hs))).set j (.int .i64 x)=Jk y) (hok:y.1≤2∧y.2≤2147483647) :
 TableIs (w.setCell ⟨l,s*2+j,none⟩ (.int .i64 x)) base t g (.slice (some ⟨l,0,none⟩) 8 lc) (.slice (some ⟨v,0,none⟩) 8 vc) F (us.set s y) lv∧Keep [l] w (w.setCell ⟨l,s*2+j,none⟩ (.int .i64 x)):=by
 have hk:Keep [l] w (w.setCell ⟨l,s*2+j,none⟩ (.int .i64 x)):=(Keep.refl _ _).setCell (.inl (by simp)) _
 have hul:=h.ulen
 have h1:=Xt h.l (s*2+j) (.int .i64 x)
 rw[YAm XG us s j (by omega) hj _ y hy] at h1
 refine⟨⟨h.blk.keep hk (by simp;rintro rfl;exact h.tL (by simp[Value.ownBlock])),h1,KA h.live hk (fun b hb=>by simp;rintro rfl;exact own_ne h.l h.live (by decide) rfl hb),h.foot,h.base,by simpa using hul,?_,h.lok⟩,hk⟩
 intro u hu
 rcases List.mem_or_eq_of_mem_set hu with hu | rfl
 · exact h.uok u hu
 · exact hok
theorem TableIs.setLive (h:TableIs w base t g (.slice (some ⟨l,0,none⟩) 8 lc) (.slice (some ⟨v,0,none⟩) 8 vc) F us lv) (s:Nat) (x:Nat) (hok:x≤2147483647) :
 TableIs (w.setCell ⟨v,s,none⟩ (.int .i64 x)) base t g (.slice (some ⟨l,0,none⟩) 8 lc) (.slice (some ⟨v,0,none⟩) 8 vc) F us (lv.set s x)∧Keep [v] w (w.setCell ⟨v,s,none⟩ (.int .i64 x)):=by
 have hk:Keep [v] w (w.setCell ⟨v,s,none⟩ (.int .i64 x)):=(Keep.refl _ _).setCell (.inl (by simp)) _
 have h1:=Kb h.live s (.int .i64 x)
 rw[show (ZP lv).set s (.int .i64 x)=ZP (lv.set s x) by simp[ZP,List.map_set]] at h1
 refine⟨⟨h.blk.keep hk (by simp;rintro rfl;exact h.tV (by simp[Value.ownBlock])),KA h.l hk (fun b hb=>by simp;rintro rfl;exact own_ne h.live h.l (by decide) rfl hb),h1,h.foot,h.base,h.ulen,h.uok,?_⟩,hk⟩
 intro u hu
 rcases List.mem_or_eq_of_mem_set hu with hu | rfl
 · exact h.lok u hu
 · exact hok
theorem TableIs.use (h:TableIs w base t g (.slice (some ⟨l,0,none⟩) 8 lc) (.slice (some ⟨v,0,none⟩) 8 vc) F us lv) (s:Nat) (hs:s<8) :
 w.cell? ⟨l,s*2,none⟩=some (.int .i64 (us[s]'(by rw[h.ulen];exact hs)).1)∧w.cell? ⟨l,s*2+1,none⟩=some (.int .i64 (us[s]'(by rw[h.ulen];exact hs)).2):=by
 have hul:=h.ulen
 refine⟨?_,?_⟩
 · have:=XE h.l (k:=s*2+0) (u:=.int .i64 (us[s]'(by rw[h.ulen];exact hs)).1) (by rw[VO XG us s 0 (by omega) (by omega)];rfl)
   simpa using this
 · exact XE h.l (by rw[VO XG us s 1 (by omega) (by omega)];rfl)
theorem TableIs.liveOf (h:TableIs w base t g (.slice (some ⟨l,0,none⟩) 8 lc) (.slice (some ⟨v,0,none⟩) 8 vc) F us lv) (s:Nat) (hs:s<8):w.cell? ⟨v,s,none⟩=some (.int .i64 (lv[s]'(by rw[h.llen];exact hs))):=
 QK h.live (by have:=h.llen;simp[ZP,hs,this])
end
def YH (lv:List Nat) (s:Nat) (by_:Int):List Nat:=lv.set s (if by_>2147483647-(lv.getD s 0:Nat) then 2147483647 else (max ((lv.getD s 0:Nat)+by_) 0).toNat)
theorem JAG (w:World) (base t g:Nat) (F:List Nat) (us:List (Nat×Nat)) (lv:List Nat) (h:TableAt w base t g F us lv) (B:Nat) (hg:GeomAt w g B) (a:Nat) (h1:6+4*pgs B≤a) (h2:a<198+4*pgs B) (z:Int) (hz:z=1∨z = -1) :
 Calls Tryz.prog 48 #[.pointer (some ⟨t,0,none⟩),.int .i64 (a:Nat),.int .i64 z] w fun e w'=>e=.returned (.bool true)∧TableAt w' base t g F us (YH lv ((a-(6+4*pgs B)) / 24) z)∧Keep F w w':=by
 obtain⟨L,V,h⟩:=h
 obtain⟨l,lc,v,vc,rfl,rfl,hlv,htl,htv⟩:=h.forms
 obtain⟨c0,c1,c2⟩:=h.cells
 have hT:=ZY w g B hg a h1 h2
 obtain⟨s,hs⟩:∃ s,s=(a-(6+4*pgs B)) / 24:=⟨_,rfl⟩
 have hs8:s<8:=by omega
 rw[← hs] at hT ⊢
 clear hs
 generalize (a-(6+4*pgs B)) % 24=q at hT
 have hsI:((s:Nat):Int)<8:=by omega
 have hlen:=h.llen
 obtain⟨x,hx⟩:∃ x,x=lv[s]:=⟨_,rfl⟩
 have hxb:x≤2147483647:=h.lok x (by rw[hx];exact List.getElem_mem _)
 have hgd:lv.getD s 0=x:=by rw[hx,List.getD_eq_getElem?_getD,List.getElem?_eq_getElem (by omega)];rfl
 have HG:=ZB hgd
 clear hgd
 have HX:=ZB hx
 by_cases hgt:2147483647-(x:Int)<z
 · go_enter Tryz.func48,Tryz.ntmps48
   clear hx
   go_wp2_with (refine hT.mono ?_;clear hT;rintro e w1 ⟨rfl,hk1⟩;have hw1:=h.keep0 hk1;obtain⟨d0,d1,d2⟩:=hw1.cells;have hcl:=hw1.liveOf s hs8;rw[← QA HX] at hcl;have hfr:=XJ hw1.live s)
   go_ret
   obtain⟨h2,hk2⟩:=hw1.setLive s 2147483647 (Nat.le_refl _)
   have he:YH lv s z=lv.set s 2147483647:=by unfold YH;rw[QA HG,if_pos (by omega)]
   rw[he]
   exact⟨rfl,⟨_,_,h2⟩,hk1.zero.trans (hk2.sub (m:=F) (by rw[h.foot];simp[Value.ownBlock])) (fun x hx=>.inl hx)⟩
 · go_enter Tryz.func48,Tryz.ntmps48
   clear hx
   go_wp2_with (refine hT.mono ?_;clear hT;rintro e w1 ⟨rfl,hk1⟩;have hw1:=h.keep0 hk1;obtain⟨d0,d1,d2⟩:=hw1.cells;have hcl:=hw1.liveOf s hs8;rw[← QA HX] at hcl;have hfr:=XJ hw1.live s)
   have hcl':w1.drew.cell? ⟨v,s,none⟩=some (.int .i64 x):=hcl
   have hwr:IntKind.i64.wrap ((x:Nat)+z)=(x:Nat)+z:=by rw[IntKind.wrap_i64];omega
   have fin:∀ y:Int,y=max ((x:Nat)+z) 0→TableAt (w1.setCell ⟨v,s,none⟩ (.int .i64 y)).drew base t g F us (YH lv s z)∧Keep F w (w1.setCell ⟨v,s,none⟩ (.int .i64 y)).drew:=fun y hy=>by
    obtain⟨y,rfl⟩:∃ k:Nat,y=(k:Nat):=⟨y.toNat,by omega⟩
    obtain⟨h2,hk2⟩:=hw1.setLive s y (by omega)
    have he:YH lv s z=lv.set s y:=by unfold YH;rw[QA HG,if_neg (by omega)];congr 1;omega
    rw[he]
    exact⟨⟨_,_,h2.keep0 (Keep.refl _ _).drew⟩,(hk1.zero.trans (hk2.sub (m:=F) (by rw[h.foot];simp[Value.ownBlock])) (fun x hx=>.inl hx)).drew⟩
   refine ZT (fun w'=>w'.cell? ⟨t,2,none⟩=some (.slice (some ⟨v,0,none⟩) 8 vc)∧w'.cell? ⟨v,s,none⟩=some (.int .i64 x)) 15 [[0,1,2,3,4,5,6,7,8,9,10,11,12,13,14]] ⟨d2,hcl⟩ ?_
   simp only[PI]
   iterate 15 (refine ZH ?_;simp only[Act.put,PU])
   refine JB ?_
   go_wp2_with fail
   all_goals
    go_ret
    exact⟨rfl,fin _ (by omega)⟩
theorem KAy (w:World) (base t g:Nat) (F:List Nat) (us:List (Nat×Nat)) (lv:List Nat) (h:TableAt w base t g F us lv) (B:Nat) (hg:GeomAt w g B) (z:Int) :
 Calls Tryz.prog 48 #[.pointer (some ⟨t,0,none⟩),.int .i64 0,.int .i64 z] w fun e w'=>e=.returned (.bool false)∧Keep [] w w':=by
 obtain⟨L,V,h⟩:=h
 obtain⟨c0,c1,c2⟩:=h.cells
 have hT:=VAd w g B hg
 go_enter Tryz.func48,Tryz.ntmps48
 go_wp2_with (refine hT.mono ?_;clear hT;rintro e w1 ⟨rfl,hk1⟩)
 go_ret
 exact⟨rfl,hk1⟩
end
section
open Go.RowKit
theorem Xn (w:World) (base t g:Nat) (L V:Value) (F:List Nat) (us:List (Nat×Nat)) (lv:List Nat) (h:TableIs w base t g L V F us lv) (s:Nat) (hs:s<8) :
 Calls Tryz.prog 86 #[.pointer (some ⟨t,0,none⟩),.int .i64 (s:Nat)] w fun e w'=>e=.returned (.bool true)∧w=w':=by
 obtain⟨l,lc,v,vc,rfl,rfl,hlv,htl,htv⟩:=h.forms
 obtain⟨c0,c1,c2⟩:=h.cells
 have hsI:((s:Nat):Int)<8:=by omega
 go_enter Tryz.func86,Tryz.ntmps86
 go_wp2
 go_ret
 exact⟨rfl,rfl⟩
def VE (us:List (Nat×Nat)) (s x:Nat):List (Nat×Nat):=us.set s (x,(us.getD s (0,0)).2)
def QF (us:List (Nat×Nat)) (s x:Nat):List (Nat×Nat):=us.set s ((us.getD s (0,0)).1,x)
theorem QJ {us:List (Nat×Nat)} {s:Nat} (h:s<us.length):us.getD s (0,0)=us[s]:=by rw[List.getD_eq_getElem?_getD,List.getElem?_eq_getElem h];rfl
theorem ZAX (w:World) (base t g:Nat) (F:List Nat) (us:List (Nat×Nat)) (lv:List Nat) (h:TableAt w base t g F us lv) (s x:Nat) (hs:s<8) (hx:x≤2147483647) :
 Calls Tryz.prog 219 #[.pointer (some ⟨t,0,none⟩),.int .i64 (s:Nat),.int .i64 (x:Nat)] w fun e w'=>e=.returned (.tuple #[])∧TableAt w' base t g F (QF us s x) lv∧Keep F w w':=by
 obtain⟨L,V,h⟩:=h
 have hH:=Xn w base t g L V F us lv h s hs
 obtain⟨l,lc,v,vc,rfl,rfl,hlv,htl,htv⟩:=h.forms
 obtain⟨c0,c1,c2⟩:=h.cells
 obtain⟨u1,u2⟩:=h.use s hs
 have hul:=h.ulen
 have hfr:=KS h.l (s*2+1)
 have hsI:((s:Nat):Int)<8:=by omega
 have hxI:((x:Nat):Int)≤2147483647:=by omega
 obtain⟨h2,hk2⟩:=h.setUse s 1 hs (by omega) x (us[s].1,x) rfl ⟨(h.uok _ (List.getElem_mem _)).1,hx⟩
 have HF:=ZB h.foot
 have HU:=ZB hul

 go_enter Tryz.func219,Tryz.ntmps219
 go_wp2_with (refine hH.mono ?_;clear hH;rintro e w' ⟨rfl,rfl⟩)
 have he:QF us s x=us.set s (us[s].1,x):=by unfold QF;rw[QJ (by rw[QA HU];exact hs)]
 refine bodyPost_end (v:=.tuple #[]) (by simp[results,Tryz.results219,go_sem]) rfl ?_
 rw[he]
 exact⟨rfl,⟨_,_,h2⟩,hk2.sub (by rw[QA HF];simp[Value.ownBlock])⟩
theorem ZAr (w:World) (base t g:Nat) (F:List Nat) (us:List (Nat×Nat)) (lv:List Nat) (h:TableAt w base t g F us lv) (s:Nat) (hs:s<8) (hx:(us.getD s (0,0)).1=1) :
 Calls Tryz.prog 221 #[.pointer (some ⟨t,0,none⟩),.int .i64 (s:Nat)] w fun e w'=>e=.returned (.tuple #[])∧TableAt w' base t g F (VE us s 2) lv∧Keep F w w':=by
 obtain⟨L,V,h⟩:=h
 have hH:=Xn w base t g L V F us lv h s hs
 obtain⟨l,lc,v,vc,rfl,rfl,hlv,htl,htv⟩:=h.forms
 obtain⟨c0,c1,c2⟩:=h.cells
 have hul:=h.ulen
 obtain⟨u1,u2⟩:=h.use s hs
 rw[QJ (by omega)] at hx
 rw[hx] at u1
 have hfr:=KS h.l (s*2)
 have hsI:((s:Nat):Int)<8:=by omega
 obtain⟨h2,hk2⟩:=h.setUse s 0 hs (by omega) 2 (2,us[s].2) rfl ⟨by omega,(h.uok _ (List.getElem_mem _)).2⟩
 have HF:=ZB h.foot
 have HU:=ZB hul
 clear hx
 go_enter Tryz.func221,Tryz.ntmps221
 go_wp2_with (refine hH.mono ?_;clear hH;rintro e w' ⟨rfl,rfl⟩)
 have he:VE us s 2=us.set s (2,us[s].2):=by unfold VE;rw[QJ (by rw[QA HU];exact hs)]
 refine bodyPost_end (v:=.tuple #[]) (by simp[results,Tryz.results221,go_sem]) rfl ?_
 rw[he]
 exact⟨rfl,⟨_,_,h2⟩,hk2.sub (by rw[QA HF];simp[Value.ownBlock])⟩
theorem JAk (w:World) (base t g:Nat) (F:List Nat) (us:List (Nat×Nat)) (lv:List Nat) (h:TableAt w base t g F us lv) (s:Nat) (hs:s<8) (hx:(us.getD s (0,0)).1=0) :
 Calls Tryz.prog 316 #[.pointer (some ⟨t,0,none⟩),.int .i64 (s:Nat)] w fun e w'=>e=.returned (.bool true)∧TableAt w' base t g F (VE us s 1) (lv.set s 0)∧Keep F w w':=by
 obtain⟨L,V,h⟩:=h
 have hH:=Xn w base t g L V F us lv h s hs
 obtain⟨l,lc,v,vc,rfl,rfl,hlv,htl,htv⟩:=h.forms
 obtain⟨c0,c1,c2⟩:=h.cells
 have hul:=h.ulen
 obtain⟨u1,u2⟩:=h.use s hs
 rw[QJ (by omega)] at hx
 rw[hx] at u1
 have hfr:=KS h.l (s*2)
 have hsI:((s:Nat):Int)<8:=by omega
 obtain⟨h2,hk2⟩:=(h.keep0 (Keep.refl _ _).drew).setUse s 0 hs (by omega) 1 (1,us[s].2) rfl ⟨by omega,(h.uok _ (List.getElem_mem _)).2⟩
 obtain⟨h3,hk3⟩:=h2.setLive s 0 (by omega)
 have hcl:=h2.liveOf s hs
 have hcw:=h.liveOf s hs
 have hfv:=XJ h.live s
 have hfv2:=XJ h2.live s
 have hc2:=h2.cells.2.2
 have HF:=ZB h.foot
 have HU:=ZB hul
 clear hx
 generalize lv[s]'_=y at hcl hcw
 go_enter Tryz.func316,Tryz.ntmps316
 go_wp2_with (refine hH.mono ?_;clear hH;rintro e w' ⟨rfl,rfl⟩)
 refine ZT (fun w'=>w'.cell? ⟨t,1,none⟩=some (.slice (some ⟨l,0,none⟩) 8 lc)∧w'.cell? ⟨t,2,none⟩=some (.slice (some ⟨v,0,none⟩) 8 vc)) 13 [[0,1,2,3,4,5,6,7,8,9,10,11],[12]] ⟨c1,c2⟩ ?_
 simp only[PI]
 iterate 12 (refine ZH ?_;simp only[Act.put,PU])
 refine XB (by rfl) (fun K hK=>?_)
 go_wp2_with fail
 refine hK _ _ (⟨h2.cells.2.1,h2.cells.2.2⟩) ?_
 clear hK K
 try simp only[Act.put,PU]
 refine JB ?_
 go_wp2_with fail
 go_ret
 have he:VE us s 1=us.set s (1,us[s].2):=by unfold VE;rw[QJ (by rw[QA HU];exact hs)]
 rw[he]
 have hF:=QA HF
 exact⟨rfl,⟨_,_,h3⟩,((Keep.refl _ _).drew.trans (hk2.sub (m:=F) (by rw[hF];simp[Value.ownBlock])) (fun x hx=>.inl hx)).trans (hk3.sub (m:=F) (by rw[hF];simp[Value.ownBlock])) (fun x hx=>.inl hx)⟩
def QE (us:List (Nat×Nat)):Nat:=us.countP (fun u=>u.1 == 0)
def VB (us:List (Nat×Nat)):Nat:=us.findIdx (fun u=>u.1 == 0)
theorem QAo (w:World) (base t g:Nat) (F:List Nat) (us:List (Nat×Nat)) (lv:List Nat) (h:TableAt w base t g F us lv) :
 Calls Tryz.prog 105 #[.pointer (some ⟨t,0,none⟩)] w fun e w'=>e=.returned (.int .i64 (QE us:Nat))∧Keep [] w w':=by
 obtain⟨L,V,h⟩:=h
 obtain⟨l,lc,v,vc,rfl,rfl,hlv,htl,htv⟩:=h.forms
 obtain⟨c0,c1,c2⟩:=h.cells
 have hul:=h.ulen
 have HU:=ZB hul
 clear hul
 go_enter Tryz.func105,Tryz.ntmps105
 go_wp2
 go_loopw [2,4,12] (fun r _ i wr=>∃ m:Nat,m≤8∧i=.int .i64 m∧r=.int .i64 (QE (us.take m):Nat)∧Keep [] w wr) (fun _ _ i _=>8-(intOf i).toNat)
 case atStart=>exact⟨0,Nat.zero_le _,rfl,rfl,Keep.refl _ _⟩
 case round=>
  obtain⟨m,hm,rfl,rfl,hk⟩:=hrel
  by_cases hlt:m<8
  · have hml:m<us.length:=by rw[QA HU];exact hlt
    obtain⟨u1,u2⟩:=(h.keep0 hk).use m hlt
    have hll:=Vw (h.keep0 hk).l
    have hsn:QE (us.take (m+1))=QE (us.take m)+(if us[m].1 == 0 then 1 else 0):=by
     rw[List.take_succ_eq_append_getElem hml,QE,QE,List.countP_append,List.countP_singleton]
    have hle:QE (us.take m)≤8:=by
     have:=List.countP_le_length (p:=fun u:Nat×Nat=>u.1 == 0) (l:=us.take m)
     rw[List.length_take] at this
     unfold QE;omega
    have HS:=ZB hsn
    clear hsn
    generalize QE (us.take m)=q at *
    have hx:us[m].1=us[m].1:=rfl
    generalize us[m]=p at *
    obtain⟨p1,p2⟩:=p
    simp only at u1 u2
    by_cases hp:p1=0
    · subst hp
      go_wp2
      go_roundw
      case rel=>exact⟨m+1,by omega,by go_num,by rw[QA HS];simp,hk.alloc _⟩
      case measure=>simp[intOf];omega
    · have hp':((p1:Nat):Int)≠0:=by omega
      go_wp2
      go_roundw
      case rel=>exact⟨m+1,by omega,by go_num,by rw[QA HS];simp[hp],hk.alloc _⟩
      case measure=>simp[intOf];omega
  · obtain rfl:m=8:=by omega
    go_wp2
    go_ret
    exact⟨VI (by rw[List.take_of_length_le (by rw[QA HU];exact Nat.le_refl _)]),hk⟩
theorem XAR (w:World) (base t g:Nat) (l lc v vc:Nat) (F:List Nat) (us:List (Nat×Nat)) (lv:List Nat) (h:TableIs w base t g (.slice (some ⟨l,0,none⟩) 8 lc) (.slice (some ⟨v,0,none⟩) 8 vc) F us lv) (hf:VB us<8) :
 Calls Tryz.prog 326 #[.slice (some ⟨l,0,none⟩) 8 lc,.func (.func 327) #[] #[]] w fun e w'=>e=.returned (.int .i64 (VB us:Nat))∧Keep [] w w':=by
 have hul:=h.ulen
 have hP:∀ (p1 p2:Nat) W,Calls Tryz.prog 327 #[.agg #[.int .i64 p1,.int .i64 p2]] W fun e w'=>e=.returned (.bool (decide (p1=0)))∧Keep [] W w':=fun p1 p2 W=>by
  go_enter Tryz.func327,Tryz.ntmps327
  go_wp2
  go_ret
  exact⟨XK (by rw[Bool.eq_iff_iff];simp),(Keep.refl _ _).alloc _⟩
 have HU:=ZB hul
 clear hul
 go_enter Tryz.func326,Tryz.ntmps326
 go_wp2
 go_loopw [5,8] (fun _ i wr=>∃ m:Nat,m≤VB us∧i=.int .i64 m∧Keep [] w wr) (fun _ i _=>8-(intOf i).toNat)
 case atStart=>exact⟨0,Nat.zero_le _,rfl,Keep.refl _ _⟩
 case round=>
  obtain⟨m,hm,rfl,hk⟩:=hrel
  have hlt:m<8:=by omega
  have hml:m<us.length:=by rw[QA HU];exact hlt
  obtain⟨u1,u2⟩:=(h.keep0 hk).use m hlt
  by_cases hmf:m=VB us
  · have HM:=ZB hmf
    have h0:us[m].1=0:=by
     subst hmf
     have:=List.findIdx_getElem (p:=fun u:Nat×Nat=>u.1 == 0) (xs:=us) (w:=hml)
     exact beq_iff_eq.1 this
    rw[h0] at u1
    clear h0 hmf
    have hPm:=hP 0 us[m].2
    rw[decide_eq_true rfl] at hPm
    go_wp2_with (refine(hPm _).mono ?_;rintro e w1 ⟨rfl,hk1⟩)
    go_ret
    exact⟨VI (a:=((m:Nat):Int)) (by rw[← QA HM]),hk.trans0 hk1⟩
  · have h0:us[m].1≠0:=by
     have:=List.not_of_lt_findIdx (p:=fun u:Nat×Nat=>u.1 == 0) (xs:=us) (i:=m) (by unfold VB at hm hmf;omega)
     simpa using this
    have hPm:=hP us[m].1 us[m].2
    rw[decide_eq_false h0] at hPm
    go_wp2_with (refine(hPm _).mono ?_;rintro e w1 ⟨rfl,hk1⟩)
    go_roundw
    case rel=>exact⟨m+1,by omega,by go_num,hk.trans0 hk1⟩
    case measure=>simp[intOf];omega
theorem ZAn (w:World) (base t g:Nat) (F:List Nat) (us:List (Nat×Nat)) (lv:List Nat) (h:TableAt w base t g F us lv) (spare:Bool) (hsp:spare=false→2<QE us) (hf:VB us<8) :
 Calls Tryz.prog 246 #[.pointer (some ⟨t,0,none⟩),.bool spare] w fun e w'=>e=.returned (.tuple #[.int .i64 (VB us:Nat),.bool true])∧TableAt w' base t g F (VE us (VB us) 1) (lv.set (VB us) 0)∧Keep F w w':=by
 have hF:=QAo w base t g F us lv h
 obtain⟨L,V,h⟩:=h
 obtain⟨l,lc,v,vc,rfl,rfl,hlv,htl,htv⟩:=h.forms
 have hI:=fun W (hk:Keep [] w W)=>XAR W base t g l lc v vc F us lv (h.keep0 hk) hf
 have hG:=fun W (hk:Keep [] w W)=>JAk W base t g F us lv ⟨_,_,h.keep0 hk⟩ (VB us) hf (by
  have hul:=h.ulen
  rw[QJ (by omega)]
  have:=List.findIdx_getElem (p:=fun u:Nat×Nat=>u.1 == 0) (xs:=us) (w:=by unfold VB at hf;omega)
  exact beq_iff_eq.1 this)
 obtain⟨c0,c1,c2⟩:=h.cells
 have hk0:=Keep.refl [] w
 generalize VB us=s at *
 cases spare
 · have h2:(2:Int)<(QE us:Nat):=by have:=hsp rfl;omega
   generalize QE us=q at *
   go_enter Tryz.func246,Tryz.ntmps246
   go_wp2_with (first
    | (go_at_call 105;refine hF.mono ?_;rintro e w1 ⟨rfl,hk1⟩;have e1:=(h.keep0 hk1).cells.2.1)
    | (go_at_call 326;refine(hI _ hk1).mono ?_;rintro e w2 ⟨rfl,hk2⟩;replace hk2:=hk1.trans0 hk2)
    | (go_at_call 316;refine(hG _ hk2).mono ?_;rintro e w3 ⟨rfl,h3,hk3⟩))
   go_ret2
   exact⟨rfl,h3,hk2.zero.trans hk3 (fun x hx=>.inl hx)⟩
 · go_enter Tryz.func246,Tryz.ntmps246
   go_wp2_with (first
    | (go_at_call 326;refine(hI _ hk0).mono ?_;rintro e w2 ⟨rfl,hk2⟩)
    | (go_at_call 316;refine(hG _ hk2).mono ?_;rintro e w3 ⟨rfl,h3,hk3⟩))
   go_ret2
   exact⟨rfl,h3,hk2.zero.trans hk3 (fun x hx=>.inl hx)⟩
end
end Go.Proofs.YthgphmfipnjllaaGreat
