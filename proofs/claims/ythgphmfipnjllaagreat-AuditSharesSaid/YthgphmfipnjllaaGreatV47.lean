/- Lemmas of the proof, with their conditions. -/
import Derived.Test.YthgphmfipnjllaaGreatV38
import Derived.Test.YthgphmfipnjllaaGreatV46
namespace Go.Proofs.YthgphmfipnjllaaGreat
set_option linter.unusedSimpArgs false
set_option linter.unusedVariables false
set_option maxHeartbeats 4000000
set_option maxRecDepth 20000
section
open Go.RowKit Go.Shelf
structure PRef where
 block:Nat
 at_:Nat
 seg:Nat
 off:Nat
def XAU (r:PRef):List Value:=[.int .i64 r.block,.int .i64 r.at_,.int .i64 r.seg,.int .i64 r.off,.bool true]
theorem XD (r:PRef):(XAU r).length=5:=rfl
abbrev PFlt:=Nat×Nat×Nat
def VAT (f:PFlt):List Value:=[.int .i64 f.1,.int .i64 f.2.1,.int .i64 f.2.2]
theorem elemRef:ElemN Tryz.prog 125 129 (.agg #[.int .i64 0,.int .i64 0,.int .i64 0,.int .i64 0,.bool false]) 5 40:=ElemN.of Tryz.underlying125 (by kernel_rfl) rfl (by omega)
theorem elemFlt:ElemN Tryz.prog 51 59 (.agg #[.int .i64 0,.int .i64 0,.int .i64 0]) 3 24:=ElemN.of Tryz.underlying51 (by kernel_rfl) rfl (by omega)
def YK (c:Nat) (f:Nat→PRef→Bool) (rs:List PRef):Nat→List PFlt
 | 0=>[]
 | k+1=>YK c f rs k++(match rs[k]? with | some r=>if f k r then [(c,r.seg,r.block)] else [] | none=>[])
def VN (c:Nat) (f:Nat→PRef→Bool) (rs:List PRef):List PFlt:=YK c f rs rs.length
theorem Vd (c:Nat) (f:Nat→PRef→Bool) (rs:List PRef) (k:Nat):(YK c f rs k).length≤k:=by
 induction k with
 | zero=>simp[YK]
 | succ k ih=>
   simp only[YK,List.length_append]
   cases rs[k]? with
   | none=>simp;omega
   | some r=>simp only;split <;> simp <;> omega
def JK (lv:List Nat) (rs:List PRef):Nat→List PFlt
 | 0=>[]
 | k+1=>JK lv rs k++(if lv.getD k 0≠rs.countP (fun r=>r.seg == k) then [(3,k,0)] else [])
def Kk (us:List (Nat×Nat)):Nat:=us.countP (fun u=>u.1 == 1)
def Zh (us:List (Nat×Nat)):List PFlt:=if Kk us=1 then [] else [(5,Kk us,0)]
def ZW (rs:List PRef) (i:Nat) (r:PRef):Bool:=(rs.take i).any (fun y=>y.at_ == r.at_)
def Qb (us:List (Nat×Nat)) (s:Nat):Bool:=decide ((us.getD s (0,0)).1≠0)
def Ky (p:PPos) (r:PRef):Bool:=decide (r.seg=p.seg∧p.off≤r.off)
def Qe (us:List (Nat×Nat)) (p:PPos) (f:Nat→Nat→Nat) (_:Nat) (r:PRef):Bool:=Qb us r.seg && decide (f r.block r.at_=0) && !Ky p r
def Dfr (W:World) (dk:Option Nat):Prop:=∀ k,dk=some k→W.heap[k]? = some (.deferred (some []))
theorem Dfr.keep {W W':World} {dk:Option Nat} {l:List Nat} (h:Dfr W dk) (hk:Keep l W W') (hl:∀ k∈l,W.heap[k]? ≠ some (.deferred (some []))):Dfr W' dk:=fun k e=>
 (hk.block k (Array.getElem?_eq_some_iff.1 (h k e)).1 (fun hm=>hl k hm (h k e))).trans (h k e)
structure ALookL (w0:World) (dk:Option Nat) (x s mb bx N:Nat) (R:Value) (rs:List PRef) (f:Nat→Nat→Nat) (L:Value) (fs:List PFlt) (W:World):Prop where
 blk:Blk W x 127 #[.pointer (some ⟨s,0,none⟩),R,.map (some mb),L]
 refs:W.ownsRow w0.heap.size 129 5 R rs.length (rs.flatMap XAU)
 flt:W.ownsRow w0.heap.size 59 3 L fs.length (fs.flatMap VAT)
 told:MapIs W mb N f
 box:Boxed W bx 123 (.pointer (some ⟨x,0,none⟩))
 keep:Keep [] w0 W
 xb:w0.heap.size≤x
 mbb:w0.heap.size≤mb
 dfr:Dfr W dk
def JI (w0:World) (dk:Option Nat) (x s mb bx N:Nat) (R:Value) (rs:List PRef) (f:Nat→Nat→Nat) (fs:List PFlt) (W:World):Prop:=∃ L,ALookL w0 dk x s mb bx N R rs f L fs W
theorem XS {w:World} {base n q b N:Nat} {e:TypeId} {v:Value} {xs:List Value} {f:Nat→Nat→Nat} (h:w.ownsRow base e q v n xs) (hm:MapIs w b N f):b∉v.ownBlock.toList:=by
 intro hb
 obtain⟨es,c,he⟩:=hm.isMap
 have:=KK h b hb _ he
 cases this
theorem YS {w:World} {b x N:Nat} {t:TypeId} {cs:Array Value} {f:Nat→Nat→Nat} (h:Blk w x t cs) (hm:MapIs w b N f):b≠x:=by
 rintro rfl
 obtain⟨es,c,he⟩:=hm.isMap
 have:=h.symm.trans he
 cases this
namespace ALookL
variable {w0 W W' W2:World} {dk:Option Nat} {x s mb bx N:Nat} {R L L':Value} {rs:List PRef} {f:Nat→Nat→Nat} {fs:List PFlt}
theorem keep0 (h:ALookL w0 dk x s mb bx N R rs f L fs W) (hk:Keep [] W W'):ALookL w0 dk x s mb bx N R rs f L fs W':=
 ⟨h.blk.keep0 hk,ZA h.refs hk,ZA h.flt hk,h.told.keep hk (by simp),JA h.box hk (by simp),h.keep.trans0 hk,h.xb,h.mbb,h.dfr.keep hk (by simp)⟩
theorem ne_bx (h:ALookL w0 dk x s mb bx N R rs f L fs W):bx≠x:=by
 rintro rfl
 have:=h.box.symm.trans h.blk
 simp at this
theorem push (h:ALookL w0 dk x s mb bx N R rs f L fs W) (q:PFlt) (hk:Keep L.ownBlock.toList W W2) (hL:W2.ownsRow w0.heap.size 59 3 L' (fs.length+1) (fs.flatMap VAT++VAT q)) :
 ALookL w0 dk x s mb bx N R rs f L' (fs++[q]) (W2.setCell ⟨x,3,none⟩ L'):=by
 have hx:x∉L.ownBlock.toList:=fun hm=>own_blk_ne h.flt h.blk (by decide) (by simpa using hm)
 have hR:∀ y,R.ownBlock=some y→y∉L.ownBlock.toList:=fun y hy hm=>own_ne h.refs h.flt (by decide) hy (by simpa using hm)
 have hbx:bx∉L.ownBlock.toList:=fun hm=>h.box.not_row (by decide) h.flt (by simpa [eq_comm] using hm)
 have hmb:mb∉L.ownBlock.toList:=XS h.flt h.told
 have hk2:Keep [x] W2 (W2.setCell ⟨x,3,none⟩ L'):=(Keep.refl _ _).setCell (p:=⟨x,3,none⟩) (.inl (by simp)) _
 have hb2:=h.blk.keep hk hx
 have hb3:=hb2.set 3 L'
 simp only[List.setIfInBounds_toArray,List.set_cons_zero,List.set_cons_succ] at hb3
 have hr2:=KA h.refs hk hR
 refine⟨hb3,KA hr2 hk2 (fun y hy hm=>?_),?_,(h.told.keep hk hmb).keep hk2 (by simpa using YS h.blk h.told),JA (JA h.box hk hbx) hk2 (by simpa using h.ne_bx),?_,h.xb,h.mbb,(h.dfr.keep hk (fun k hm e=>by have:=KK h.flt k hm _ e;cases this)).keep hk2 (fun k hm e=>by simp at hm;subst hm;have:=hb2.symm.trans e;cases this)⟩
 · simp at hm;subst hm
   exact own_blk_ne hr2 hb2 (by decide) hy
 · rw[List.length_append,List.length_singleton,List.flatMap_append,List.flatMap_singleton]
   exact KA hL hk2 (fun y hy hm=>by simp at hm;subst hm;exact own_blk_ne hL hb2 (by decide) hy)
 · exact(h.keep.trans hk (fun y hy=>.inr (own_mem h.flt (by simpa using hy)).1)).trans hk2 (fun y hy=>.inr (by simp at hy;subst hy;exact h.xb))
theorem more (h:ALookL w0 dk x s mb bx N R rs f L fs W) {N':Nat} {f':Nat→Nat→Nat} (hk:Keep [mb] W W2) (hm:MapIs W2 mb N' f'):ALookL w0 dk x s mb bx N' R rs f' L fs W2:=by
 have hne:mb≠bx:=by
  rintro rfl
  obtain⟨es,c,he⟩:=h.told.isMap
  have:=h.box.symm.trans he
  cases this
 exact⟨h.blk.keep hk (by simpa using(YS h.blk h.told).symm),KA h.refs hk (fun y hy hm=>by simp at hm;subst hm;exact XS h.refs h.told (by simpa using hy)),KA h.flt hk (fun y hy hm=>by simp at hm;subst hm;exact XS h.flt h.told (by simpa using hy)),hm,
  JA h.box hk (by simpa using hne.symm),h.keep.trans hk (fun y hy=>.inr (by simp at hy;subst hy;exact h.mbb)),h.xb,h.mbb,h.dfr.keep hk (fun k hm' e=>by simp at hm';subst hm';obtain⟨es,c,he⟩:=h.told.isMap;rw[he] at e;cases e)⟩
end ALookL
end
section
open Go.RowKit Go.Shelf
attribute [local go_sem] Oper.semAt_some
theorem QAB (w:World) (a b c:Value):Rd (w.alloc (.cells #[a,b,c] 59)) (some ⟨w.heap.size,0,none⟩) (1*3) [a,b,c]:=by
 have hb:=Blk.new w 59 #[a,b,c]
 refine⟨rfl,fun _=>⟨_,_,rfl,hb.lt,fun j u hu=>?_⟩⟩
 have h:=hb.cell j
 simp only[Nat.zero_add]
 rw[h]
 simpa using hu
theorem JAl (w0 w:World) (dk:Option Nat) (x s mb bx N:Nat) (R:Value) (rs:List PRef) (tf:Nat→Nat→Nat) (fs:List PFlt) (c:Nat) (cap:Value) (f:Nat→PRef→Bool) (h:JI w0 dk x s mb bx N R rs tf fs w) (hlr:rs.length≤200) (hlf:fs.length≤1000)
 (hso:∀ W fs' i (r:PRef),JI w0 dk x s mb bx N R rs tf fs' W→rs[i]? = some r→Calls Tryz.prog 67 #[.int .i64 (i:Nat),.agg #[.int .i64 r.block,.int .i64 r.at_,.int .i64 r.seg,.int .i64 r.off,.bool true],cap] W fun e w'=>e=.returned (.bool (f i r))∧Keep [] W w') :
 Calls Tryz.prog 66 #[.pointer (some ⟨x,0,none⟩),.int .i64 (c:Nat),.func (.func 67) #[] #[cap]] w fun e w'=>e=.returned (.tuple #[])∧JI w0 dk x s mb bx N R rs tf (fs++VN c f rs) w':=by
 unfold VN
 obtain⟨L,hA⟩:=h
 obtain⟨c0,c1,c2,c3⟩:=JC hA.blk
 obtain⟨RA,rc,rfl,_⟩:=QB hA.refs
 obtain⟨n,hn⟩:∃ n,n=rs.length:=⟨_,rfl⟩
 have HN:=ZB hn
 have hn200:n≤200:=by omega
 have hA0:JI w0 dk x s mb bx N (.slice RA n rc) rs tf fs w:=by rw[hn];exact⟨L,hA⟩
 rw[← hn] at c1 hso ⊢
 have HSO:=ZB hso
 clear hn hso hA
 go_enter Tryz.func66,Tryz.ntmps66
 go_wp2
 clear c0 c1 c2 c3
 go_loopw [13] (fun i wr=>∃ k:Nat,k≤n∧i=.int .i64 k∧JI w0 dk x s mb bx N (.slice RA n rc) rs tf (fs++YK c f rs k) wr) (fun i _=>n-(intOf i).toNat)
 case atStart=>exact⟨0,Nat.zero_le _,rfl,by simpa [YK] using hA0⟩
 case round=>
  clear hA0
  obtain⟨k,hk,rfl,hA⟩:=hrel
  by_cases hlt:k<n
  · have hltI:((k:Nat):Int)<(n:Nat):=by omega
    have hkl:k<rs.length:=by rw[← QA HN];exact hlt
    obtain⟨L,hA⟩:=hA
    have hR':=hA.refs
    rw[← QA HN] at hR'
    have hrf:=Rd.of_ownN hR'
    obtain⟨g,rfl⟩:∃ g,RA=some ⟨g,0,none⟩:=by
     obtain⟨g',c',he,_⟩:=QD hA.refs (by omega)
     cases he
     exact⟨g',rfl⟩
    have hgl:g<wr.heap.size:=(own_mem hR' (g:=g) (by simp[Value.ownBlock])).2
    have r0:=(YC XD hrf hkl (j:=0) (by omega)).2
    have r1:=(YC XD hrf hkl (j:=1) (by omega)).2
    have r2:=(YC XD hrf hkl (j:=2) (by omega)).2
    have r3:=(YC XD hrf hkl (j:=3) (by omega)).2
    have r4:=(YC XD hrf hkl (j:=4) (by omega)).2
    have hrk:rs[k]? = some rs[k]:=List.getElem?_eq_getElem hkl
    have hS:=fun W fs' (hW:JI w0 dk x s mb bx N (.slice (some ⟨g,0,none⟩) n rc) rs tf fs' W)=>QA HSO W fs' k _ hW hrk
    have hU:YK c f rs (k+1)=YK c f rs k++(if f k rs[k] then [(c,rs[k].seg,rs[k].block)] else []):=by simp only[YK,hrk]
    have hlu:=Vd c f rs k
    generalize rs[k]=r at *
    obtain⟨rb,ra,rsg,ro⟩:=r
    simp only[XAU,List.getElem?_cons_zero,List.getElem?_cons_succ,Nat.add_zero] at r0 r1 r2 r3 r4 hS hU
    obtain⟨fb,hfb⟩:∃ fb,fb=f k ⟨rb,ra,rsg,ro⟩:=⟨_,rfl⟩
    rw[← hfb] at hS hU
    have HU:=ZB hU
    clear hfb hU hrf hkl hrk hR'
    have hka:=(Keep.refl [] wr).alloc (.cells #[.int .i64 rb,.int .i64 ra,.int .i64 rsg,.int .i64 ro,.bool true] 129)
    have hbl:=Blk.new wr 129 #[.int .i64 rb,.int .i64 ra,.int .i64 rsg,.int .i64 ro,.bool true]
    have hAa:JI w0 dk x s mb bx N (.slice (some ⟨g,0,none⟩) n rc) rs tf (fs++YK c f rs k) _:=⟨L,hA.keep0 hka⟩
    have hlen:(fs++YK c f rs k).length≤1200:=by rw[List.length_append];omega
    obtain⟨FS,hFS⟩:∃ FS,FS=fs++YK c f rs k:=⟨_,rfl⟩
    rw[← hFS] at hA hAa hlen
    have HFS:=ZB hFS
    clear hFS
    cases fb
    · go_wp2_with (refine(hS _ _ hAa).mono ?_;clear hS;rintro e w2 ⟨rfl,hk2⟩)
      go_roundw
      case rel=>
       have e1:=QA HU
       simp only[Bool.false_eq_true,if_false,List.append_nil] at e1
       exact⟨k+1,by omega,by go_num,L,by rw[e1,← QA HFS];exact(hA.keep0 hka).keep0 hk2⟩
      case measure=>simp[intOf];omega
    · go_wp2_with (
       refine(hS _ _ hAa).mono ?_
       clear hS
       rintro e w2 ⟨rfl,hk2⟩)
      have hA2:=(hA.keep0 hka).keep0 hk2
      have hb2:=hbl.keep0 hk2
      clear hA hAa hbl hka hk2 r0 r1 r2 r3 r4
      obtain⟨c0,c1,c2,c3⟩:=JC (hA2.blk.keep0 (Keep.refl _ _).drew)
      obtain⟨y0,y1,y2,y3,y4⟩:=cells5 (hb2.keep0 (Keep.refl _ _).drew)
      refine ZT (fun W=>W.cell? ⟨x,3,none⟩=some L∧W.cell? ⟨wr.heap.size,0,none⟩=some (.int .i64 rb)∧W.cell? ⟨wr.heap.size,2,none⟩=some (.int .i64 rsg)) 13 [[0,1,2,3,4,5,6,7,8,9,10],[11],[12]] ⟨c3,y0,y2⟩ ?_
      simp only[PI]
      iterate 11 (refine ZH ?_;simp only[Act.put,PU])
      refine XB (by rfl) (fun K hK=>?_)
      go_wp2_with fail
      have hkb:Keep [] w2 (w2.alloc (.cells #[.int .i64 c,.int .i64 rsg,.int .i64 rb] 59)).drew:=((Keep.refl [] w2).alloc (.cells #[.int .i64 c,.int .i64 rsg,.int .i64 rb] 59)).drew
      have hA3:=hA2.keep0 hkb
      have hb3:=hb2.keep0 hkb
      clear c0 c1 c2 c3 y0 y1 y2 y3 y4
      obtain⟨c0,c1,c2,c3⟩:=JC hA3.blk
      obtain⟨y0,y1,y2,y3,y4⟩:=cells5 hb3
      refine hK _ _ (⟨c3,y0,y2⟩) ?_
      clear hK K
      try simp only[Act.put,PU]
      refine XB (by rfl) (fun K hK=>?_)
      have hbs:w0.heap.size≤w2.heap.size:=hA2.keep.size
      obtain⟨LA,lc,rfl,_⟩:=QB hA3.flt
      refine elemFlt.wp1_app (.tmp 26) (.tmp 33) (by rfl) w0.heap.size (.slice LA FS.length lc) FS.length (FS.flatMap VAT) (by rfl) hA3.flt ⟨w2.heap.size,0,none⟩ 1 1 [.int .i64 c,.int .i64 rsg,.int .i64 rb] (by rfl) ((QAB w2 _ _ _).keep (Keep.refl _ _).drew) (by simp[Value.oneCell']) (by omega) (by omega) (Nat.le_trans hbs hkb.size) ?_
      intro L' w3 hL3 hk3 hat _
      have hnx:x∉(Value.slice LA FS.length lc).ownBlock.toList:=fun hm=>own_blk_ne hA3.flt hA3.blk (by decide) (by simpa using hm)
      have hnb:wr.heap.size∉(Value.slice LA FS.length lc).ownBlock.toList:=fun hm=>own_blk_ne hA3.flt hb3 (by decide) (by simpa using hm)
      have hx3:=hA3.blk.keep hk3 hnx
      have hb4:=hb3.keep hk3 hnb
      clear c0 c1 c2 c3 y0 y1 y2 y3 y4
      obtain⟨c0,c1,c2,c3⟩:=JC hx3
      obtain⟨y0,y1,y2,y3,y4⟩:=cells5 hb4
      refine hK _ _ (⟨c3,y0,y2⟩) ?_
      clear hK K
      try simp only[Act.put,PU]
      refine JB ?_
      have f3:=hx3.frozen 3
      have hxl:=hx3.lt
      obtain⟨VA,vc,rfl,_⟩:=QB hL3
      go_wp2_with fail
      go_roundw
      case rel=>
       have e1:=QA HU
       simp only[if_true] at e1
       have hp:=hA3.push (c,rsg,rb) hk3 hL3
       refine⟨k+1,by omega,by go_num,.slice VA (FS.length+1) vc,?_⟩
       rw[e1,← List.append_assoc,← QA HFS]
       exact hp
      case measure=>simp[intOf];omega
  · obtain rfl:k=n:=by omega
    go_wp2
    go_end0
    exact⟨rfl,hA⟩
theorem VAp (w0 w:World) (dk:Option Nat) (x s mb bx N:Nat) (R:Value) (rs:List PRef) (tf:Nat→Nat→Nat) (fs:List PFlt) (c:Nat) (cap:Value) (f:Nat→PRef→Bool) (h:JI w0 dk x s mb bx N R rs tf fs w) (hlr:rs.length≤200) (hlf:fs.length≤1000)
 (hso:∀ W fs' i (r:PRef),JI w0 dk x s mb bx N R rs tf fs' W→rs[i]? = some r→Calls Tryz.prog 70 #[.int .i64 (i:Nat),.agg #[.int .i64 r.block,.int .i64 r.at_,.int .i64 r.seg,.int .i64 r.off,.bool true],cap] W fun e w'=>e=.returned (.bool (f i r))∧Keep [] W w') :
 Calls Tryz.prog 66 #[.pointer (some ⟨x,0,none⟩),.int .i64 (c:Nat),.func (.func 70) #[] #[cap]] w fun e w'=>e=.returned (.tuple #[])∧JI w0 dk x s mb bx N R rs tf (fs++VN c f rs) w':=by
 unfold VN
 obtain⟨L,hA⟩:=h
 obtain⟨c0,c1,c2,c3⟩:=JC hA.blk
 obtain⟨RA,rc,rfl,_⟩:=QB hA.refs
 obtain⟨n,hn⟩:∃ n,n=rs.length:=⟨_,rfl⟩
 have HN:=ZB hn
 have hn200:n≤200:=by omega
 have hA0:JI w0 dk x s mb bx N (.slice RA n rc) rs tf fs w:=by rw[hn];exact⟨L,hA⟩
 rw[← hn] at c1 hso ⊢
 have HSO:=ZB hso
 clear hn hso hA
 go_enter Tryz.func66,Tryz.ntmps66
 go_wp2
 clear c0 c1 c2 c3
 go_loopw [13] (fun i wr=>∃ k:Nat,k≤n∧i=.int .i64 k∧JI w0 dk x s mb bx N (.slice RA n rc) rs tf (fs++YK c f rs k) wr) (fun i _=>n-(intOf i).toNat)
 case atStart=>exact⟨0,Nat.zero_le _,rfl,by simpa [YK] using hA0⟩
 case round=>
  clear hA0
  obtain⟨k,hk,rfl,hA⟩:=hrel
  by_cases hlt:k<n
  · have hltI:((k:Nat):Int)<(n:Nat):=by omega
    have hkl:k<rs.length:=by rw[← QA HN];exact hlt
    obtain⟨L,hA⟩:=hA
    have hR':=hA.refs
    rw[← QA HN] at hR'
    have hrf:=Rd.of_ownN hR'
    obtain⟨g,rfl⟩:∃ g,RA=some ⟨g,0,none⟩:=by
     obtain⟨g',c',he,_⟩:=QD hA.refs (by omega)
     cases he
     exact⟨g',rfl⟩
    have hgl:g<wr.heap.size:=(own_mem hR' (g:=g) (by simp[Value.ownBlock])).2
    have r0:=(YC XD hrf hkl (j:=0) (by omega)).2
    have r1:=(YC XD hrf hkl (j:=1) (by omega)).2
    have r2:=(YC XD hrf hkl (j:=2) (by omega)).2
    have r3:=(YC XD hrf hkl (j:=3) (by omega)).2
    have r4:=(YC XD hrf hkl (j:=4) (by omega)).2
    have hrk:rs[k]? = some rs[k]:=List.getElem?_eq_getElem hkl
    have hS:=fun W fs' (hW:JI w0 dk x s mb bx N (.slice (some ⟨g,0,none⟩) n rc) rs tf fs' W)=>QA HSO W fs' k _ hW hrk
    have hU:YK c f rs (k+1)=YK c f rs k++(if f k rs[k] then [(c,rs[k].seg,rs[k].block)] else []):=by simp only[YK,hrk]
    have hlu:=Vd c f rs k
    generalize rs[k]=r at *
    obtain⟨rb,ra,rsg,ro⟩:=r
    simp only[XAU,List.getElem?_cons_zero,List.getElem?_cons_succ,Nat.add_zero] at r0 r1 r2 r3 r4 hS hU
    obtain⟨fb,hfb⟩:∃ fb,fb=f k ⟨rb,ra,rsg,ro⟩:=⟨_,rfl⟩
    rw[← hfb] at hS hU
    have HU:=ZB hU
    clear hfb hU hrf hkl hrk hR'
    have hka:=(Keep.refl [] wr).alloc (.cells #[.int .i64 rb,.int .i64 ra,.int .i64 rsg,.int .i64 ro,.bool true] 129)
    have hbl:=Blk.new wr 129 #[.int .i64 rb,.int .i64 ra,.int .i64 rsg,.int .i64 ro,.bool true]
    have hAa:JI w0 dk x s mb bx N (.slice (some ⟨g,0,none⟩) n rc) rs tf (fs++YK c f rs k) _:=⟨L,hA.keep0 hka⟩
    have hlen:(fs++YK c f rs k).length≤1200:=by rw[List.length_append];omega
    obtain⟨FS,hFS⟩:∃ FS,FS=fs++YK c f rs k:=⟨_,rfl⟩
    rw[← hFS] at hA hAa hlen
    have HFS:=ZB hFS
    clear hFS
    cases fb
    · go_wp2_with (refine(hS _ _ hAa).mono ?_;clear hS;rintro e w2 ⟨rfl,hk2⟩)
      go_roundw
      case rel=>
       have e1:=QA HU
       simp only[Bool.false_eq_true,if_false,List.append_nil] at e1
       exact⟨k+1,by omega,by go_num,L,by rw[e1,← QA HFS];exact(hA.keep0 hka).keep0 hk2⟩
      case measure=>simp[intOf];omega
    · go_wp2_with (
       refine(hS _ _ hAa).mono ?_
       clear hS
       rintro e w2 ⟨rfl,hk2⟩)
      have hA2:=(hA.keep0 hka).keep0 hk2
      have hb2:=hbl.keep0 hk2
      clear hA hAa hbl hka hk2 r0 r1 r2 r3 r4
      obtain⟨c0,c1,c2,c3⟩:=JC (hA2.blk.keep0 (Keep.refl _ _).drew)
      obtain⟨y0,y1,y2,y3,y4⟩:=cells5 (hb2.keep0 (Keep.refl _ _).drew)
      refine ZT (fun W=>W.cell? ⟨x,3,none⟩=some L∧W.cell? ⟨wr.heap.size,0,none⟩=some (.int .i64 rb)∧W.cell? ⟨wr.heap.size,2,none⟩=some (.int .i64 rsg)) 13 [[0,1,2,3,4,5,6,7,8,9,10],[11],[12]] ⟨c3,y0,y2⟩ ?_
      simp only[PI]
      iterate 11 (refine ZH ?_;simp only[Act.put,PU])
      refine XB (by rfl) (fun K hK=>?_)
      go_wp2_with fail
      have hkb:Keep [] w2 (w2.alloc (.cells #[.int .i64 c,.int .i64 rsg,.int .i64 rb] 59)).drew:=((Keep.refl [] w2).alloc (.cells #[.int .i64 c,.int .i64 rsg,.int .i64 rb] 59)).drew
      have hA3:=hA2.keep0 hkb
      have hb3:=hb2.keep0 hkb
      clear c0 c1 c2 c3 y0 y1 y2 y3 y4
      obtain⟨c0,c1,c2,c3⟩:=JC hA3.blk
      obtain⟨y0,y1,y2,y3,y4⟩:=cells5 hb3
      refine hK _ _ (⟨c3,y0,y2⟩) ?_
      clear hK K
      try simp only[Act.put,PU]
      refine XB (by rfl) (fun K hK=>?_)
      have hbs:w0.heap.size≤w2.heap.size:=hA2.keep.size
      obtain⟨LA,lc,rfl,_⟩:=QB hA3.flt
      refine elemFlt.wp1_app (.tmp 26) (.tmp 33) (by rfl) w0.heap.size (.slice LA FS.length lc) FS.length (FS.flatMap VAT) (by rfl) hA3.flt ⟨w2.heap.size,0,none⟩ 1 1 [.int .i64 c,.int .i64 rsg,.int .i64 rb] (by rfl) ((QAB w2 _ _ _).keep (Keep.refl _ _).drew) (by simp[Value.oneCell']) (by omega) (by omega) (Nat.le_trans hbs hkb.size) ?_
      intro L' w3 hL3 hk3 hat _
      have hnx:x∉(Value.slice LA FS.length lc).ownBlock.toList:=fun hm=>own_blk_ne hA3.flt hA3.blk (by decide) (by simpa using hm)
      have hnb:wr.heap.size∉(Value.slice LA FS.length lc).ownBlock.toList:=fun hm=>own_blk_ne hA3.flt hb3 (by decide) (by simpa using hm)
      have hx3:=hA3.blk.keep hk3 hnx
      have hb4:=hb3.keep hk3 hnb
      clear c0 c1 c2 c3 y0 y1 y2 y3 y4
      obtain⟨c0,c1,c2,c3⟩:=JC hx3
      obtain⟨y0,y1,y2,y3,y4⟩:=cells5 hb4
      refine hK _ _ (⟨c3,y0,y2⟩) ?_
      clear hK K
      try simp only[Act.put,PU]
      refine JB ?_
      have f3:=hx3.frozen 3
      have hxl:=hx3.lt
      obtain⟨VA,vc,rfl,_⟩:=QB hL3
      go_wp2_with fail
      go_roundw
      case rel=>
       have e1:=QA HU
       simp only[if_true] at e1
       have hp:=hA3.push (c,rsg,rb) hk3 hL3
       refine⟨k+1,by omega,by go_num,.slice VA (FS.length+1) vc,?_⟩
       rw[e1,← List.append_assoc,← QA HFS]
       exact hp
      case measure=>simp[intOf];omega
  · obtain rfl:k=n:=by omega
    go_wp2
    go_end0
    exact⟨rfl,hA⟩
theorem JAp (w0 w:World) (dk:Option Nat) (x s mb bx N:Nat) (R:Value) (rs:List PRef) (tf:Nat→Nat→Nat) (fs:List PFlt) (c:Nat) (cap:Value) (f:Nat→PRef→Bool) (h:JI w0 dk x s mb bx N R rs tf fs w) (hlr:rs.length≤200) (hlf:fs.length≤1000)
 (hso:∀ W fs' i (r:PRef),JI w0 dk x s mb bx N R rs tf fs' W→rs[i]? = some r→Calls Tryz.prog 73 #[.int .i64 (i:Nat),.agg #[.int .i64 r.block,.int .i64 r.at_,.int .i64 r.seg,.int .i64 r.off,.bool true],cap] W fun e w'=>e=.returned (.bool (f i r))∧Keep [] W w') :
 Calls Tryz.prog 66 #[.pointer (some ⟨x,0,none⟩),.int .i64 (c:Nat),.func (.func 73) #[] #[cap]] w fun e w'=>e=.returned (.tuple #[])∧JI w0 dk x s mb bx N R rs tf (fs++VN c f rs) w':=by
 unfold VN
 obtain⟨L,hA⟩:=h
 obtain⟨c0,c1,c2,c3⟩:=JC hA.blk
 obtain⟨RA,rc,rfl,_⟩:=QB hA.refs
 obtain⟨n,hn⟩:∃ n,n=rs.length:=⟨_,rfl⟩
 have HN:=ZB hn
 have hn200:n≤200:=by omega
 have hA0:JI w0 dk x s mb bx N (.slice RA n rc) rs tf fs w:=by rw[hn];exact⟨L,hA⟩
 rw[← hn] at c1 hso ⊢
 have HSO:=ZB hso
 clear hn hso hA
 go_enter Tryz.func66,Tryz.ntmps66
 go_wp2
 clear c0 c1 c2 c3
 go_loopw [13] (fun i wr=>∃ k:Nat,k≤n∧i=.int .i64 k∧JI w0 dk x s mb bx N (.slice RA n rc) rs tf (fs++YK c f rs k) wr) (fun i _=>n-(intOf i).toNat)
 case atStart=>exact⟨0,Nat.zero_le _,rfl,by simpa [YK] using hA0⟩
 case round=>
  clear hA0
  obtain⟨k,hk,rfl,hA⟩:=hrel
  by_cases hlt:k<n
  · have hltI:((k:Nat):Int)<(n:Nat):=by omega
    have hkl:k<rs.length:=by rw[← QA HN];exact hlt
    obtain⟨L,hA⟩:=hA
    have hR':=hA.refs
    rw[← QA HN] at hR'
    have hrf:=Rd.of_ownN hR'
    obtain⟨g,rfl⟩:∃ g,RA=some ⟨g,0,none⟩:=by
     obtain⟨g',c',he,_⟩:=QD hA.refs (by omega)
     cases he
     exact⟨g',rfl⟩
    have hgl:g<wr.heap.size:=(own_mem hR' (g:=g) (by simp[Value.ownBlock])).2
    have r0:=(YC XD hrf hkl (j:=0) (by omega)).2
    have r1:=(YC XD hrf hkl (j:=1) (by omega)).2
    have r2:=(YC XD hrf hkl (j:=2) (by omega)).2
    have r3:=(YC XD hrf hkl (j:=3) (by omega)).2
    have r4:=(YC XD hrf hkl (j:=4) (by omega)).2
    have hrk:rs[k]? = some rs[k]:=List.getElem?_eq_getElem hkl
    have hS:=fun W fs' (hW:JI w0 dk x s mb bx N (.slice (some ⟨g,0,none⟩) n rc) rs tf fs' W)=>QA HSO W fs' k _ hW hrk
    have hU:YK c f rs (k+1)=YK c f rs k++(if f k rs[k] then [(c,rs[k].seg,rs[k].block)] else []):=by simp only[YK,hrk]
    have hlu:=Vd c f rs k
    generalize rs[k]=r at *
    obtain⟨rb,ra,rsg,ro⟩:=r
    simp only[XAU,List.getElem?_cons_zero,List.getElem?_cons_succ,Nat.add_zero] at r0 r1 r2 r3 r4 hS hU
    obtain⟨fb,hfb⟩:∃ fb,fb=f k ⟨rb,ra,rsg,ro⟩:=⟨_,rfl⟩
    rw[← hfb] at hS hU
    have HU:=ZB hU
    clear hfb hU hrf hkl hrk hR'
    have hka:=(Keep.refl [] wr).alloc (.cells #[.int .i64 rb,.int .i64 ra,.int .i64 rsg,.int .i64 ro,.bool true] 129)
    have hbl:=Blk.new wr 129 #[.int .i64 rb,.int .i64 ra,.int .i64 rsg,.int .i64 ro,.bool true]
    have hAa:JI w0 dk x s mb bx N (.slice (some ⟨g,0,none⟩) n rc) rs tf (fs++YK c f rs k) _:=⟨L,hA.keep0 hka⟩
    have hlen:(fs++YK c f rs k).length≤1200:=by rw[List.length_append];omega
    obtain⟨FS,hFS⟩:∃ FS,FS=fs++YK c f rs k:=⟨_,rfl⟩
    rw[← hFS] at hA hAa hlen
    have HFS:=ZB hFS
    clear hFS
    cases fb
    · go_wp2_with (refine(hS _ _ hAa).mono ?_;clear hS;rintro e w2 ⟨rfl,hk2⟩)
      go_roundw
      case rel=>
       have e1:=QA HU
       simp only[Bool.false_eq_true,if_false,List.append_nil] at e1
       exact⟨k+1,by omega,by go_num,L,by rw[e1,← QA HFS];exact(hA.keep0 hka).keep0 hk2⟩
      case measure=>simp[intOf];omega
    · go_wp2_with (
       refine(hS _ _ hAa).mono ?_
       clear hS
       rintro e w2 ⟨rfl,hk2⟩)
      have hA2:=(hA.keep0 hka).keep0 hk2
      have hb2:=hbl.keep0 hk2
      clear hA hAa hbl hka hk2 r0 r1 r2 r3 r4
      obtain⟨c0,c1,c2,c3⟩:=JC (hA2.blk.keep0 (Keep.refl _ _).drew)
      obtain⟨y0,y1,y2,y3,y4⟩:=cells5 (hb2.keep0 (Keep.refl _ _).drew)
      refine ZT (fun W=>W.cell? ⟨x,3,none⟩=some L∧W.cell? ⟨wr.heap.size,0,none⟩=some (.int .i64 rb)∧W.cell? ⟨wr.heap.size,2,none⟩=some (.int .i64 rsg)) 13 [[0,1,2,3,4,5,6,7,8,9,10],[11],[12]] ⟨c3,y0,y2⟩ ?_
      simp only[PI]
      iterate 11 (refine ZH ?_;simp only[Act.put,PU])
      refine XB (by rfl) (fun K hK=>?_)
      go_wp2_with fail
      have hkb:Keep [] w2 (w2.alloc (.cells #[.int .i64 c,.int .i64 rsg,.int .i64 rb] 59)).drew:=((Keep.refl [] w2).alloc (.cells #[.int .i64 c,.int .i64 rsg,.int .i64 rb] 59)).drew
      have hA3:=hA2.keep0 hkb
      have hb3:=hb2.keep0 hkb
      clear c0 c1 c2 c3 y0 y1 y2 y3 y4
      obtain⟨c0,c1,c2,c3⟩:=JC hA3.blk
      obtain⟨y0,y1,y2,y3,y4⟩:=cells5 hb3
      refine hK _ _ (⟨c3,y0,y2⟩) ?_
      clear hK K
      try simp only[Act.put,PU]
      refine XB (by rfl) (fun K hK=>?_)
      have hbs:w0.heap.size≤w2.heap.size:=hA2.keep.size
      obtain⟨LA,lc,rfl,_⟩:=QB hA3.flt
      refine elemFlt.wp1_app (.tmp 26) (.tmp 33) (by rfl) w0.heap.size (.slice LA FS.length lc) FS.length (FS.flatMap VAT) (by rfl) hA3.flt ⟨w2.heap.size,0,none⟩ 1 1 [.int .i64 c,.int .i64 rsg,.int .i64 rb] (by rfl) ((QAB w2 _ _ _).keep (Keep.refl _ _).drew) (by simp[Value.oneCell']) (by omega) (by omega) (Nat.le_trans hbs hkb.size) ?_
      intro L' w3 hL3 hk3 hat _
      have hnx:x∉(Value.slice LA FS.length lc).ownBlock.toList:=fun hm=>own_blk_ne hA3.flt hA3.blk (by decide) (by simpa using hm)
      have hnb:wr.heap.size∉(Value.slice LA FS.length lc).ownBlock.toList:=fun hm=>own_blk_ne hA3.flt hb3 (by decide) (by simpa using hm)
      have hx3:=hA3.blk.keep hk3 hnx
      have hb4:=hb3.keep hk3 hnb
      clear c0 c1 c2 c3 y0 y1 y2 y3 y4
      obtain⟨c0,c1,c2,c3⟩:=JC hx3
      obtain⟨y0,y1,y2,y3,y4⟩:=cells5 hb4
      refine hK _ _ (⟨c3,y0,y2⟩) ?_
      clear hK K
      try simp only[Act.put,PU]
      refine JB ?_
      have f3:=hx3.frozen 3
      have hxl:=hx3.lt
      obtain⟨VA,vc,rfl,_⟩:=QB hL3
      go_wp2_with fail
      go_roundw
      case rel=>
       have e1:=QA HU
       simp only[if_true] at e1
       have hp:=hA3.push (c,rsg,rb) hk3 hL3
       refine⟨k+1,by omega,by go_num,.slice VA (FS.length+1) vc,?_⟩
       rw[e1,← List.append_assoc,← QA HFS]
       exact hp
      case measure=>simp[intOf];omega
  · obtain rfl:k=n:=by omega
    go_wp2
    go_end0
    exact⟨rfl,hA⟩
end
section
open Go.RowKit Go.Shelf
attribute [local go_sem] Oper.semAt_some
theorem JBC (W:World) (A B:List Value) (b a1 a2:Nat) (v0 v2 v3 v4 u0 u2 u3 u4:Value) (hb:Blk W b 129 #[v0,.int .i64 a1,v2,v3,v4]) :
 Calls Tryz.prog 69 #[.agg #[u0,.int .i64 a2,u2,u3,u4],.pointer (some ⟨b,0,none⟩)] W fun e w'=>e=.returned (.bool (decide (a2=a1)))∧Keep [] W w':=by
 obtain⟨c0,c1,c2,c3,c4⟩:=cells5 (hb.keep0 ((Keep.refl [] W).alloc (.cells #[u0,.int .i64 a2,u2,u3,u4] 129)))
 go_enter Tryz.func69,Tryz.ntmps69
 go_wp2
 go_ret
 exact⟨XK (by rw[Bool.eq_iff_iff];simp;omega),(Keep.refl _ _).alloc _⟩
theorem KAm (W:World) (g n c b a1:Nat) (rs:List PRef) (v0 v2 v3 v4:Value) (hr:Rd W (some ⟨g,0,none⟩) (rs.length*5) (rs.flatMap XAU)) (hn:n≤rs.length) (hl:rs.length≤200) (hb:Blk W b 129 #[v0,.int .i64 a1,v2,v3,v4]) :
 Calls Tryz.prog 148 #[.slice (some ⟨g,0,none⟩) n c,.func (.func 69) #[] #[.pointer (some ⟨b,0,none⟩)]] W fun e w'=>∃ z:Int,e=.returned (.int .i64 z)∧(0≤z↔(rs.take n).any (fun y=>y.at_ == a1)=true)∧Keep [] W w':=by
 have HL:=ZB hl
 have HNL:=ZB hn
 have hn200:n≤200:=by omega
 have hP:=fun W' (hk:Keep [] W W') (a2:Nat) (u0 u2 u3 u4:Value)=>JBC W' [] [] b a1 a2 v0 v2 v3 v4 u0 u2 u3 u4 (hb.keep0 hk)
 clear hl hn
 go_enter Tryz.func148,Tryz.ntmps148
 go_wp2
 go_loopw [5,8] (fun _ i wr=>∃ m:Nat,m≤n∧i=.int .i64 m∧Hid (∀ y∈rs.take m,y.at_≠a1)∧Keep [] W wr) (fun _ i _=>n-(intOf i).toNat)
 case atStart=>exact⟨0,Nat.zero_le _,rfl,by simp[Hid],Keep.refl _ _⟩
 case round=>
  obtain⟨m,hm,rfl,hno,hk⟩:=hrel
  by_cases hlt:m<n
  · have hltI:((m:Nat):Int)<(n:Nat):=by omega
    have hml:m<rs.length:=by have:=QA HNL;omega
    have hgl:g<wr.heap.size:=(YC XD (hr.keep hk) hml (j:=0) (by omega)).1
    have c0:=(YC XD (hr.keep hk) hml (j:=0) (by omega)).2
    have c1:=(YC XD (hr.keep hk) hml (j:=1) (by omega)).2
    have c2:=(YC XD (hr.keep hk) hml (j:=2) (by omega)).2
    have c3:=(YC XD (hr.keep hk) hml (j:=3) (by omega)).2
    have c4:=(YC XD (hr.keep hk) hml (j:=4) (by omega)).2
    have htk:rs.take (m+1)=rs.take m++[rs[m]]:=List.take_succ_eq_append_getElem hml
    have hmem:rs[m]∈rs.take n:=by
     have:(rs.take n)[m]'(by rw[List.length_take];omega)=rs[m]:=List.getElem_take
     rw[← this];exact List.getElem_mem _
    generalize rs[m]=r at *
    obtain⟨rb,ra,rsg,ro⟩:=r
    simp only[XAU,List.getElem?_cons_zero,List.getElem?_cons_succ,Nat.add_zero] at c0 c1 c2 c3 c4
    have hT:=hP wr hk ra (.int .i64 rb) (.int .i64 rsg) (.int .i64 ro) (.bool true)
    have HTK:=ZB htk
    have HMM:=ZB hmem
    clear htk hmem hml
    by_cases he:ra=a1
    · rw[decide_eq_true he] at hT
      have HE:=ZB he
      clear he
      go_wp2_with (refine hT.mono ?_;clear hT;rintro e w1 ⟨rfl,hk1⟩)
      go_ret
      refine⟨_,rfl,⟨fun _=>?_,fun _=>by omega⟩,hk.trans0 hk1⟩
      exact List.any_eq_true.2 ⟨_,QA HMM,by simp[QA HE]⟩
    · rw[decide_eq_false he] at hT
      have HE:=ZB he
      clear he
      go_wp2_with (refine hT.mono ?_;clear hT;rintro e w1 ⟨rfl,hk1⟩)
      go_roundw
      case rel=>
       refine⟨m+1,by omega,by go_num,?_,hk.trans0 hk1⟩
       show ∀ y∈rs.take (m+1),_
       rw[QA HTK]
       intro y hy
       rcases List.mem_append.1 hy with hy | hy
       · exact QA hno y hy
       · simp at hy;subst hy;exact QA HE
      case measure=>simp[intOf];omega
  · obtain rfl:m=n:=by omega
    go_wp2
    go_ret
    refine⟨_,rfl,⟨fun h=>by omega,fun h=>?_⟩,hk⟩
    obtain⟨y,hy,he⟩:=List.any_eq_true.1 h
    exact absurd (by simpa using he) (QA hno y hy)
theorem JAX (W:World) (g n c b a1:Nat) (rs:List PRef) (v0 v2 v3 v4:Value) (hr:Rd W (some ⟨g,0,none⟩) (rs.length*5) (rs.flatMap XAU)) (hn:n≤rs.length) (hl:rs.length≤200) (hb:Blk W b 129 #[v0,.int .i64 a1,v2,v3,v4]) :
 Calls Tryz.prog 68 #[.slice (some ⟨g,0,none⟩) n c,.func (.func 69) #[] #[.pointer (some ⟨b,0,none⟩)]] W fun e w'=>e=.returned (.bool ((rs.take n).any (fun y=>y.at_ == a1)))∧Keep [] W w':=by
 have hI:=KAm W g n c b a1 rs v0 v2 v3 v4 hr hn hl hb
 generalize (rs.take n).any (fun y=>y.at_ == a1)=tb at *
 clear hr hn hl
 go_enter Tryz.func68,Tryz.ntmps68
 go_wp2_with (
  refine hI.mono ?_
  clear hI
  rintro e w2 ⟨z,rfl,hz,hk2⟩
  have hz2:decide (0≤z)=tb:=by rw[Bool.eq_iff_iff];simpa using hz
  clear hz)
 go_ret
 first | exact⟨rfl,hk2⟩ | exact⟨XK hz2,hk2⟩
section
variable (w0 W:World) (dk:Option Nat) (x s mb bx N:Nat) (R:Value) (rs:List PRef) (tf:Nat→Nat→Nat) (fs:List PFlt) (base d g t p m:Nat) (Fd Ft Fw Fm:List Nat) (L0 L1:Value) (B:Nat) (S:PS)
theorem KAl (i:Nat) (r:PRef) (h:JI w0 dk x s mb bx N R rs tf fs W) (hl:rs.length≤200) (hi:i<rs.length) :
 Calls Tryz.prog 67 #[.int .i64 (i:Nat),.agg #[.int .i64 r.block,.int .i64 r.at_,.int .i64 r.seg,.int .i64 r.off,.bool true],.pointer (some ⟨bx,0,none⟩)] W fun e w'=>e=.returned (.bool (ZW rs i r))∧Keep [] W w':=by
 obtain⟨L,h⟩:=h
 obtain⟨rb,ra,rsg,ro⟩:=r
 have hka:=(Keep.refl [] W).alloc (.cells #[.int .i64 rb,.int .i64 ra,.int .i64 rsg,.int .i64 ro,.bool true] 129)
 have hbl:=Blk.new W 129 #[.int .i64 rb,.int .i64 ra,.int .i64 rsg,.int .i64 ro,.bool true]
 have hA:=h.keep0 hka
 obtain⟨c0,c1,c2,c3⟩:=JC hA.blk
 have q:=hA.box.cell
 obtain⟨gg,rc,rfl,hrc⟩:=QD hA.refs (by omega)
 have hI:=JAX _ gg i rc W.heap.size ra rs _ _ _ _ (Rd.of_ownN hA.refs) (by omega) hl hbl
 have HTW:ZW rs i ⟨rb,ra,rsg,ro⟩=(rs.take i).any (fun y=>y.at_ == ra):=rfl
 rw[HTW]
 clear HTW
 simp only
 generalize (rs.take i).any (fun y=>y.at_ == ra)=tb at *
 obtain⟨nn,hnn⟩:∃ nn,nn=rs.length:=⟨_,rfl⟩
 rw[← hnn] at c1 hi hrc
 clear hnn
 go_enter Tryz.func67,Tryz.ntmps67
 go_wp2_with (refine hI.mono ?_;clear hI;rintro e w2 ⟨rfl,hk2⟩)
 go_ret
 exact⟨rfl,hka.trans0 hk2⟩
theorem VAF (sg:Nat) (h:JI w0 dk x s mb bx N R rs tf fs W) (hS:StoreIs w0 base s d g t p m Fd Ft Fw Fm L0 L1 B S) (hs:sg<8) :
 Calls Tryz.prog 71 #[.pointer (some ⟨x,0,none⟩),.int .i64 (sg:Nat)] W fun e w'=>e=.returned (.bool (Qb S.us sg))∧W=w':=by
 obtain⟨L,h⟩:=h
 obtain⟨c0,c1,c2,c3⟩:=JC h.blk
 have hS':=hS.keep0 h.keep
 have hT:=TableS_is W base s d g t p m Fd Ft Fw Fm L0 L1 B S hS'
 have hU:=QAh W base t g Ft S.us S.lv hS'.log.tab sg hs
 unfold Qb
 generalize (S.us.getD sg (0,0)).1=y at *
 go_enter Tryz.func71,Tryz.ntmps71
 go_wp2_with (first
  | (go_at_call 25;refine hT.mono ?_;clear hT;rintro e w' ⟨rfl,rfl⟩)
  | (go_at_call 30;refine hU.mono ?_;clear hU;rintro e w' ⟨rfl,rfl⟩))
 go_ret
 exact⟨XK (by rw[Bool.eq_iff_iff];simp),rfl⟩
theorem XAy (i:Nat) (r:PRef) (h:JI w0 dk x s mb bx N R rs tf fs W) (hS:StoreIs w0 base s d g t p m Fd Ft Fw Fm L0 L1 B S) (hs:r.seg<8) :
 Calls Tryz.prog 70 #[.int .i64 (i:Nat),.agg #[.int .i64 r.block,.int .i64 r.at_,.int .i64 r.seg,.int .i64 r.off,.bool true],.pointer (some ⟨bx,0,none⟩)] W fun e w'=>e=.returned (.bool (!Qb S.us r.seg))∧Keep [] W w':=by
 obtain⟨L,h⟩:=h
 obtain⟨rb,ra,rsg,ro⟩:=r
 have hka:=(Keep.refl [] W).alloc (.cells #[.int .i64 rb,.int .i64 ra,.int .i64 rsg,.int .i64 ro,.bool true] 129)
 have hbl:=Blk.new W 129 #[.int .i64 rb,.int .i64 ra,.int .i64 rsg,.int .i64 ro,.bool true]
 have hA:=h.keep0 hka
 have q:=hA.box.cell
 have hU:=VAF w0 _ dk x s mb bx N R rs tf fs base d g t p m Fd Ft Fw Fm L0 L1 B S rsg ⟨L,hA⟩ hS hs
 simp only
 generalize Qb S.us rsg=ub at *
 go_enter Tryz.func70,Tryz.ntmps70
 go_wp2_with (refine hU.mono ?_;clear hU;rintro e w' ⟨rfl,rfl⟩)
 go_ret
 exact⟨rfl,hka⟩
theorem XAn (r:PRef) (h:JI w0 dk x s mb bx N R rs tf fs W) (hS:StoreIs w0 base s d g t p m Fd Ft Fw Fm L0 L1 B S) :
 Calls Tryz.prog 74 #[.pointer (some ⟨x,0,none⟩),.agg #[.int .i64 r.block,.int .i64 r.at_,.int .i64 r.seg,.int .i64 r.off,.bool true]] W fun e w'=>e=.returned (.bool (Ky S.W.pos r))∧Keep [] W w':=by
 obtain⟨L,h⟩:=h
 obtain⟨rb,ra,rsg,ro⟩:=r
 have hka:=(Keep.refl [] W).alloc (.cells #[.int .i64 rb,.int .i64 ra,.int .i64 rsg,.int .i64 ro,.bool true] 129)
 have hbl:=Blk.new W 129 #[.int .i64 rb,.int .i64 ra,.int .i64 rsg,.int .i64 ro,.bool true]
 have hA:=h.keep0 hka
 obtain⟨c0,c1,c2,c3⟩:=JC hA.blk
 have hP:=PosS_is _ base s d g t p m Fd Ft Fw Fm L0 L1 B S (hS.keep0 hA.keep)
 unfold Ky
 simp only
 generalize S.W.pos=P at *
 obtain⟨seg,off,lsn,prev,mount⟩:=P
 simp only at *
 go_enter Tryz.func74,Tryz.ntmps74
 go_wp2_with (
  refine hP.mono ?_
  clear hP
  rintro e w2 ⟨rfl,hk2⟩
  obtain⟨y0,y1,y2,y3,y4⟩:=cells5 ((hbl.keep0 hk2).keep0 ((Keep.refl [] w2).alloc (.cells #[.int .i64 seg,.int .i64 off,.int .i64 lsn,.int .i64 prev,.int .i64 mount] 72))))
 all_goals
  go_ret
  exact⟨XK (by rw[Bool.eq_iff_iff];simp;omega),(hka.trans0 hk2).alloc _⟩
theorem QAl (i:Nat) (r:PRef) (h:JI w0 dk x s mb bx N R rs tf fs W) (hS:StoreIs w0 base s d g t p m Fd Ft Fw Fm L0 L1 B S) (hs:r.seg<8) (hb:r.block≤100000) (ha:r.at_≤100000) :
 Calls Tryz.prog 73 #[.int .i64 (i:Nat),.agg #[.int .i64 r.block,.int .i64 r.at_,.int .i64 r.seg,.int .i64 r.off,.bool true],.pointer (some ⟨bx,0,none⟩)] W fun e w'=>e=.returned (.bool (Qe S.us S.W.pos tf i r))∧Keep [] W w':=by
 obtain⟨L,h⟩:=h
 obtain⟨rb,ra,rsg,ro⟩:=r
 unfold Qe
 simp only at hs hb ha ⊢
 have hka:=(Keep.refl [] W).alloc (.cells #[.int .i64 rb,.int .i64 ra,.int .i64 rsg,.int .i64 ro,.bool true] 129)
 have hbl:=Blk.new W 129 #[.int .i64 rb,.int .i64 ra,.int .i64 rsg,.int .i64 ro,.bool true]
 have hU:=fun w' (hk:Keep [] W w')=>VAF w0 w' dk x s mb bx N R rs tf fs base d g t p m Fd Ft Fw Fm L0 L1 B S rsg ⟨L,h.keep0 hk⟩ hS hs
 have hWt:=fun w' (hk:Keep [] W w')=>XAn w0 w' dk x s mb bx N R rs tf fs base d g t p m Fd Ft Fw Fm L0 L1 B S ⟨rb,ra,rsg,ro⟩ ⟨L,h.keep0 hk⟩ hS
 have hLk:=fun w' (hk:Keep [] W w')=>(h.keep0 hk).told.look rb ra hb ha
 simp only[Vn] at hWt hLk
 have hF:∀ w',Keep [] W w'→Blk w' W.heap.size 129 #[.int .i64 rb,.int .i64 ra,.int .i64 rsg,.int .i64 ro,.bool true] →
  w'.cell? ⟨bx,0,none⟩=some (.pointer (some ⟨x,0,none⟩))∧w'.cell? ⟨x,2,none⟩=some (.map (some mb))∧w'.cell? ⟨W.heap.size,0,none⟩=some (.int .i64 rb)∧w'.cell? ⟨W.heap.size,1,none⟩=some (.int .i64 ra)∧w'.cell? ⟨W.heap.size,2,none⟩=some (.int .i64 rsg)∧w'.cell? ⟨W.heap.size,3,none⟩=some (.int .i64 ro)∧w'.cell? ⟨W.heap.size,4,none⟩=some (.bool true):=fun w' hk hb'=>by
  obtain⟨y0,y1,y2,y3,y4⟩:=cells5 hb'
  exact⟨(h.keep0 hk).box.cell,(JC (h.keep0 hk).blk).2.2.1,y0,y1,y2,y3,y4⟩
 generalize Qb S.us rsg=ub at *
 generalize Ky S.W.pos ⟨rb,ra,rsg,ro⟩=wb at *
 generalize tf rb ra=c at *
 have HF:=ZB hF
 have HU:=ZB hU
 have HWT:=ZB hWt
 have HLK:=ZB hLk
 clear hF hU hWt hLk
 go_enter Tryz.func73,Tryz.ntmps73
 go_wp2_with fail
 have hkd:=hka.drew
 have hbd:=hbl.drew
 generalize (W.alloc (.cells #[.int .i64 rb,.int .i64 ra,.int .i64 rsg,.int .i64 ro,.bool true] 129))=W1 at *
 refine ZT (fun W'=>W'.cell? ⟨bx,0,none⟩=some (.pointer (some ⟨x,0,none⟩))∧W'.cell? ⟨x,2,none⟩=some (.map (some mb))∧W'.cell? ⟨W.heap.size,0,none⟩=some (.int .i64 rb)∧W'.cell? ⟨W.heap.size,1,none⟩=some (.int .i64 ra)∧W'.cell? ⟨W.heap.size,2,none⟩=some (.int .i64 rsg)∧W'.cell? ⟨W.heap.size,3,none⟩=some (.int .i64 ro)∧W'.cell? ⟨W.heap.size,4,none⟩=some (.bool true)) 24 [[0,1,2,3,4,5],[6,7,8,9,10,11,12,13,14,15,16,17],[18,19,20,21,22,23]] (QA HF _ hkd hbd) ?_
 simp only[PI]
 iterate 6 (refine ZH ?_;simp only[Act.put,PU])
 refine XB (by rfl) (fun K hK=>?_)
 go_wp2_with (refine(QA HU _ hkd).mono ?_;rintro e w' ⟨rfl,rfl⟩)
 refine hK _ _ ((QA HF _ hkd hbd)) ?_
 clear hK K
 try simp only[Act.put,PU]
 cases ub
 · iterate 2 (refine ZH ?_;simp only[Act.put,PU])
   iterate 9 (refine YT (by rfl) ?_;simp only[Act.put,PU])
   refine QU (by rfl) (QA HF _ hkd hbd) ?_
   simp only[Act.put,PU]
   iterate 1 (refine YT (by rfl) ?_;simp only[Act.put,PU])
   iterate 2 (refine ZH ?_;simp only[Act.put,PU])
   iterate 2 (refine YT (by rfl) ?_;simp only[Act.put,PU])
   refine JB ?_
   go_wp2
   go_ret
   exact⟨rfl,hkd⟩
 · iterate 11 (refine ZH ?_;simp only[Act.put,PU])
   refine XB (by rfl) (fun K hK=>?_)
   have hl1:=QA HLK _ hkd
   go_wp2_with fail
   refine hK _ _ ((QA HF _ hkd hbd)) ?_
   clear hK K
   try simp only[Act.put,PU]
   by_cases hc:c=0
   · have hc1:((c:Nat):Int)=0:=by omega
     iterate 5 (refine ZH ?_;simp only[Act.put,PU])
     refine JB ?_
     clear hl1
     go_wp2_with (refine(QA HWT _ hkd).mono ?_;rintro e w' ⟨rfl,hk2⟩)
     go_ret
     exact⟨XK (by rw[decide_eq_true hc];simp),hkd.trans0 hk2⟩
   · have hc1:¬ ((c:Nat):Int)=0:=by omega
     have hc2:decide (((c:Nat):Int)=0)=false:=decide_eq_false hc1
     refine KM (.bool false) (by rfl) (fun W hW=>by go_simp) ?_
     simp only[Act.put,PU]
     iterate 2 (refine ZH ?_;simp only[Act.put,PU])
     iterate 2 (refine YT (by rfl) ?_;simp only[Act.put,PU])
     refine JB ?_
     go_wp2
     go_ret
     exact⟨XK (by rw[decide_eq_false hc];simp),hkd⟩
end
end
section
open Go.RowKit Go.Shelf
attribute [local go_sem] Oper.semAt_some
theorem XP {α:Type} (f:α→Bool) (l:List α) (j:Nat) (h:j<l.length):(l.take (j+1)).countP f=(l.take j).countP f+if f l[j] then 1 else 0:=by
 rw[List.take_succ_eq_append_getElem h,List.countP_append]
 simp[List.countP_cons]
theorem Zr (lv:List Nat) (rs:List PRef) (k:Nat):(JK lv rs k).length≤k:=by
 induction k with
 | zero=>simp[JK]
 | succ k ih=>simp only[JK,List.length_append];split <;> simp <;> omega
section
variable (w0 w:World) (dk:Option Nat) (x s mb bx N:Nat) (R:Value) (rs:List PRef) (tf:Nat→Nat→Nat) (fs:List PFlt) (base d g t p m:Nat) (Fd Ft Fw Fm:List Nat) (L0 L1:Value) (B:Nat) (S:PS)
theorem VAU (h:JI w0 dk x s mb bx N R rs tf fs w) (hS:StoreIs w0 base s d g t p m Fd Ft Fw Fm L0 L1 B S) (hlr:rs.length≤200) (hlf:fs.length≤1000) (hlv:∀ k,S.lv.getD k 0≤1000000) :
 Calls Tryz.prog 72 #[.pointer (some ⟨x,0,none⟩)] w fun e w'=>e=.returned (.tuple #[])∧JI w0 dk x s mb bx N R rs tf (fs++JK S.lv rs 8) w':=by
 obtain⟨n,hn⟩:∃ n,n=rs.length:=⟨_,rfl⟩
 have hn200:n≤200:=by omega
 obtain⟨RA,rc,rfl,_⟩:=QB h.choose_spec.refs
 have hG:=fun W (hk:Keep [] w0 W)=>GeomS_is W base s d g t p m Fd Ft Fw Fm L0 L1 B S (hS.keep0 hk)
 have hT:=fun W (hk:Keep [] w0 W)=>TableS_is W base s d g t p m Fd Ft Fw Fm L0 L1 B S (hS.keep0 hk)
 have hLv:=fun W (hk:Keep [] w0 W) k (hk8:k<8)=>YAo W base t g Ft S.us S.lv (hS.log.tab.keep0 hk) k hk8
 have hC:=fun W (hk:Keep [] w0 W)=>ConfigG_is W g B (hS.log.geom.keep0 hk)
 have hfd:=fun W=>VF (P:=Tryz.prog) Tryz.underlying27 1 rfl Tryz.isAgg3 #[.int .i64 B,.int .i64 8,.int .i64 24] rfl W
 obtain⟨LV,hLV⟩:∃ LV,LV=S.lv:=⟨_,rfl⟩
 rw[← hLV] at hLv hlv ⊢
 clear hLV hS
 have HN:=ZB hn
 rw[← hn] at h ⊢
 have HLVV:=ZB hlv
 have HT:=ZB hT
 have HLV:=ZB hLv
 have hA0:=h
 obtain⟨L,hA⟩:=h
 obtain⟨c0,c1,c2,c3⟩:=JC hA.blk
 clear hn hT hLv hlv
 have hGw:=hG w hA.keep
 clear hG
 go_enter Tryz.func72,Tryz.ntmps72
 go_wp2_with (first
  | (go_at_call 20;refine hGw.mono ?_;clear hGw;rintro e w' ⟨rfl,rfl⟩)
  | (go_at_call 93;refine(hC _ hA.keep).mono ?_;clear hC;rintro e w1 ⟨rfl,hk1⟩))
 clear c0 c1 c2 c3
 have hA1:JI w0 dk x s mb bx N (.slice RA n rc) rs tf fs w1:=⟨L,hA.keep0 hk1⟩
 go_loopw [13] (fun i wr=>∃ k:Nat,k≤8∧i=.int .i64 k∧JI w0 dk x s mb bx N (.slice RA n rc) rs tf (fs++JK LV rs k) wr) (fun i _=>8-(intOf i).toNat)
 case atStart=>exact⟨0,Nat.zero_le _,rfl,by simpa [JK] using hA1⟩
 case round=>
  clear hA1 hA hA0 hk1 L
  obtain⟨k,hk,rfl,L,hA⟩:=hrel
  by_cases hlt:k<8
  · have hltI:((k:Nat):Int)<8:=by omega
    obtain⟨c0,c1,c2,c3⟩:=JC hA.blk
    generalize wr=V at *
    go_wp2
    clear c0 c1 c2 c3
    go_loopw [3,21] (fun q i wr=>∃ j:Nat,j≤n∧i=.int .i64 j∧q=.int .i64 ((rs.take j).countP (fun r=>r.seg == k):Nat)∧Keep [] V wr) (fun _ i _=>n-(intOf i).toNat)
    case atStart=>exact⟨0,Nat.zero_le _,rfl,rfl,Keep.refl _ _⟩
    case round=>
     obtain⟨j,hj,rfl,rfl,hkV⟩:=hrel
     have hcl:(rs.take j).countP (fun r=>r.seg == k)≤200:=Nat.le_trans (List.countP_le_length) (by rw[List.length_take];omega)
     by_cases hlt2:j<n
     · have hltI2:((j:Nat):Int)<(n:Nat):=by omega
       have hjl:j<rs.length:=by rw[← QA HN];exact hlt2
       have hR':=ZA hA.refs hkV
       rw[← QA HN] at hR'
       obtain⟨g1,rfl⟩:∃ g1,RA=some ⟨g1,0,none⟩:=by
        obtain⟨g',c',he,_⟩:=QD hR' (by omega)
        cases he
        exact⟨g',rfl⟩
       have hrf:=Rd.of_ownN hR'
       have hgl:g1<wr.heap.size:=(own_mem hR' (g:=g1) (by simp[Value.ownBlock])).2
       have r0:=(YC XD hrf hjl (j:=0) (by omega)).2
       have r1:=(YC XD hrf hjl (j:=1) (by omega)).2
       have r2:=(YC XD hrf hjl (j:=2) (by omega)).2
       have r3:=(YC XD hrf hjl (j:=3) (by omega)).2
       have r4:=(YC XD hrf hjl (j:=4) (by omega)).2
       have hcs:=XP (fun r:PRef=>r.seg == k) rs j hjl
       generalize rs[j]=r at *
       obtain⟨rb,ra,rsg,ro⟩:=r
       simp only[XAU,List.getElem?_cons_zero,List.getElem?_cons_succ,Nat.add_zero] at r0 r1 r2 r3 r4 hcs
       obtain⟨q,hq⟩:∃ q,q=(rs.take j).countP (fun r=>r.seg == k):=⟨_,rfl⟩
       rw[← hq] at hcs hcl ⊢
       have HCS:=ZB hcs
       clear hq hcs hjl hrf hR'
       by_cases he:rsg=k
       · have heI:((rsg:Nat):Int)=(k:Nat):=by omega
         have HE:=ZB he
         clear he
         go_wp2
         go_roundw
         case rel=>
          refine⟨j+1,by omega,by go_num,?_,hkV.alloc _⟩
          rw[QA HCS,if_pos (by simp[QA HE])]
          go_num
         case measure=>simp[intOf];omega
       · have heI:¬ ((rsg:Nat):Int)=(k:Nat):=by omega
         have heD:decide (((rsg:Nat):Int)=(k:Nat))=false:=decide_eq_false heI
         have HE:=ZB he
         clear he
         go_wp2
         go_roundw
         case rel=>
          refine⟨j+1,by omega,by go_num,?_,hkV.alloc _⟩
          rw[QA HCS,if_neg (by simp[QA HE])]
          simp
         case measure=>simp[intOf];omega
     · obtain rfl:j=n:=by omega
       have hall:rs.take j=rs:=List.take_of_length_le (by rw[← QA HN];exact Nat.le_refl _)
       rw[hall] at hcl ⊢
       have hkw:Keep [] w0 wr:=hA.keep.trans0 hkV
       have hA2:=hA.keep0 hkV
       have hTw:=QA HT wr hkw
       have hLw:=QA HLV wr hkw k hlt
       have hvk:=QA HLVV k
       have hcu:JK LV rs (k+1)=JK LV rs k++(if LV.getD k 0≠rs.countP (fun r=>r.seg == k) then [(3,k,0)] else []):=rfl
       have hlu:=Zr LV rs k
       have hlen:(fs++JK LV rs k).length≤1200:=by rw[List.length_append];omega
       obtain⟨FS,hFS⟩:∃ FS,FS=fs++JK LV rs k:=⟨_,rfl⟩
       rw[← hFS] at hA2 hlen
       have HFS:=ZB hFS
       generalize LV.getD k 0=y at *
       generalize rs.countP (fun r=>r.seg == k)=q at *
       have HCU:=ZB hcu
       have hbs:w0.heap.size≤wr.heap.size:=hkw.size
       clear hcu hFS hA hall hkV
       obtain⟨c0,c1,c2,c3⟩:=JC hA2.blk
       by_cases he:y=q
       · have heI:((y:Nat):Int)=(q:Nat):=by omega
         have HE:=ZB he
         clear he
         go_wp2_with (first
          | (go_at_call 25;refine hTw.mono ?_;clear hTw;rintro e w' ⟨rfl,rfl⟩)
          | (go_at_call 26;refine hLw.mono ?_;clear hLw;rintro e w' ⟨rfl,rfl⟩))
         go_roundw
         case rel=>
          refine⟨k+1,by omega,by go_num,L,?_⟩
          rw[QA HCU,if_neg (by simp[QA HE]),List.append_nil,← QA HFS]
          exact hA2
         case measure=>simp[intOf];omega
       · have heI:¬ ((y:Nat):Int)=(q:Nat):=by omega
         have HE:=ZB he
         clear he
         obtain⟨LA,lc,rfl,_⟩:=QB hA2.flt
         go_wp2_with (first
          | (go_at_call 25;refine hTw.mono ?_;clear hTw;rintro e w' ⟨rfl,rfl⟩)
          | (go_at_call 26;refine hLw.mono ?_;clear hLw;rintro e w' ⟨rfl,rfl⟩)
          | (at_builtin
             refine elemFlt.wp_app rfl _ _ rfl w0.heap.size (.slice LA FS.length lc) FS.length (FS.flatMap VAT) rfl (YD hA2.flt _) ⟨wr.heap.size,0,none⟩ 1 1 [.int .i64 3,.int .i64 k,.int .i64 0] rfl (QAB wr _ _ _) (by simp[Value.oneCell']) (by omega) (by omega) (by rw[World.size_alloc];omega) ?_
             rintro L' w3 hL3 hk3 hat _
             obtain⟨VA,vc,rfl,_⟩:=QB hL3
             have hx3:=(hA2.keep0 ((Keep.refl [] wr).alloc (.cells #[.int .i64 3,.int .i64 (k:Nat),.int .i64 0] 59))).blk.keep hk3 (fun hm=>own_blk_ne hA2.flt hA2.blk (by decide) (by simpa using hm))
             have f3:=hx3.frozen 3
             have hxl:=hx3.lt
             have c3':=(JC hx3).2.2.2))
         go_roundw
         case rel=>
          have hp:=(hA2.keep0 ((Keep.refl [] wr).alloc (.cells #[.int .i64 3,.int .i64 (k:Nat),.int .i64 0] 59))).push (3,k,0) hk3 hL3
          refine⟨k+1,by omega,by go_num,.slice VA (FS.length+1) vc,?_⟩
          rw[QA HCU,if_pos (by simpa using QA HE),← List.append_assoc,← QA HFS]
          exact hp
         case measure=>simp[intOf];omega
  · obtain rfl:k=8:=by omega
    go_wp2
    go_end0
    exact⟨rfl,L,hA⟩
end
end
end Go.Proofs.YthgphmfipnjllaaGreat
