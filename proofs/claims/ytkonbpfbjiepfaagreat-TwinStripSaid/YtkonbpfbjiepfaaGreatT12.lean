/- Lemmas of the proof, with their conditions. -/
import Derived.Test.YtkonbpfbjiepfaaGreatT08
import Derived.Test.YtkonbpfbjiepfaaGreatT04
namespace Go.Proofs.YtkonbpfbjiepfaaGreat
set_option linter.unusedSimpArgs false
set_option linter.unusedVariables false
set_option maxHeartbeats 1000000
section
open Go.RowKit
def JU (u:Nat×Nat):List Value:=[.int .i64 u.1,.int .i64 u.2]
theorem ZE (u:Nat×Nat):(JU u).length=2:=rfl
structure TableIs (w:World) (base t g:Nat) (L V:Value) (F:List Nat) (us:List (Nat×Nat)) (lv:List Nat):Prop where
 blk:Blk w t 168 #[.pointer (some ⟨g,0,none⟩),L,V]
 l:w.ownsRow base 212 2 L 8 (us.flatMap JU)
 live:w.ownsRow base 3 1 V 8 (QH lv)
 foot:F=t :: (L.ownBlock.toList++V.ownBlock.toList)
 base:base≤t
 ulen:us.length=8
 uok:∀ u∈us,u.1≤2∧u.2≤2147483647
 lok:∀ x∈lv,x≤2147483647
def TableAt (w:World) (base t g:Nat) (F:List Nat) (us:List (Nat×Nat)) (lv:List Nat):Prop:=∃ L V,TableIs w base t g L V F us lv
namespace TableIs
variable {w w':World} {base t g:Nat} {L V:Value} {F l:List Nat} {us:List (Nat×Nat)} {lv:List Nat}
theorem keep (h:TableIs w base t g L V F us lv) (hk:Keep l w w') (ha:Apart F l):TableIs w' base t g L V F us lv:=by
 have hf:=h.foot;exact⟨h.blk.keep hk (ha t (by simp[hf])),XB h.l hk fun g hg=>ha g (by simp[hf,hg]),XB h.live hk fun g hg=>ha g (by simp[hf,hg]),hf,h.base,h.ulen,h.uok,h.lok⟩
theorem keep0 (h:TableIs w base t g L V F us lv) (hk:Keep [] w w'):TableIs w' base t g L V F us lv:=h.keep hk Apart.nil_right
theorem lt (h:TableIs w base t g L V F us lv):∀ x∈F,x<w.heap.size:=by
 rw[h.foot];intro x hx;simp only[List.mem_cons,List.mem_append] at hx;rcases hx with rfl | hx | hx
 · exact h.blk.lt
 · exact(own_mem h.l hx).2
 · exact(own_mem h.live hx).2
theorem ge (h:TableIs w base t g L V F us lv):∀ x∈F,base≤x:=by
 rw[h.foot];intro x hx;simp only[List.mem_cons,List.mem_append] at hx;rcases hx with rfl | hx | hx
 · exact h.base
 · exact(own_mem h.l hx).1
 · exact(own_mem h.live hx).1
theorem tL (h:TableIs w base t g L V F us lv):t∉L.ownBlock.toList:=fun hm=>own_blk_ne h.l h.blk (by decide) (by simpa using hm)
theorem tV (h:TableIs w base t g L V F us lv):t∉V.ownBlock.toList:=fun hm=>own_blk_ne h.live h.blk (by decide) (by simpa using hm)
theorem llen (h:TableIs w base t g L V F us lv):lv.length=8:=by simpa using h.live.1
theorem forms (h:TableIs w base t g L V F us lv):∃ l lc v vc,L=.slice (some ⟨l,0,none⟩) 8 lc∧V=.slice (some ⟨v,0,none⟩) 8 vc∧l≠v∧t≠l∧t≠v:=by
 obtain⟨l,lc,rfl,_⟩:=QD h.l (by omega);obtain⟨v,vc,rfl,_⟩:=QD h.live (by omega);exact⟨l,lc,v,vc,rfl,rfl,fun e=>own_ne h.l h.live (by decide) rfl (by simp[Value.ownBlock,e]),fun e=>h.tL (by simp[Value.ownBlock,e]),fun e=>h.tV (by simp[Value.ownBlock,e])⟩
theorem cells (h:TableIs w base t g L V F us lv):w.cell? ⟨t,0,none⟩=some (.pointer (some ⟨g,0,none⟩))∧w.cell? ⟨t,1,none⟩=some L∧w.cell? ⟨t,2,none⟩=some V:=
 ⟨by simpa using h.blk.cell 0,by simpa using h.blk.cell 1,by simpa using h.blk.cell 2⟩
end TableIs
section
variable {w w':World} {base t g l lc v vc:Nat} {F:List Nat} {us:List (Nat×Nat)} {lv:List Nat}
theorem TableIs.setUse (h:TableIs w base t g (.slice (some ⟨l,0,none⟩) 8 lc) (.slice (some ⟨v,0,none⟩) 8 vc) F us lv) (s j:Nat) (hs:s<8) (hj:j<2) (x:Nat) (y:Nat×Nat) (hy:(JU (us[s]'(by rw[h.ulen];exact hs))).set j (.int .i64 x)=JU y) (hok:y.1≤2∧y.2≤2147483647) :
 TableIs (w.setCell ⟨l,s*2+j,none⟩ (.int .i64 x)) base t g (.slice (some ⟨l,0,none⟩) 8 lc) (.slice (some ⟨v,0,none⟩) 8 vc) F (us.set s y) lv∧Keep [l] w (w.setCell ⟨l,s*2+j,none⟩ (.int .i64 x)):=by
 have hk:Keep [l] w (w.setCell ⟨l,s*2+j,none⟩ (.int .i64 x)):=(Keep.refl _ _).setCell (.inl (by simp)) _;have hul:=h.ulen;have h1:=Qf h.l (s*2+j) (.int .i64 x);rw[KAK ZE us s j (by omega) hj _ y hy] at h1;refine⟨⟨h.blk.keep hk (by simp;rintro rfl;exact h.tL (by simp[Value.ownBlock])),h1,XB h.live hk (fun b hb=>by simp;rintro rfl;exact own_ne h.l h.live (by decide) rfl hb),h.foot,h.base,by simpa using hul,?_,h.lok⟩,hk⟩;intro u hu;rcases List.mem_or_eq_of_mem_set hu with hu | rfl
 · exact h.uok u hu
 · exact hok
theorem TableIs.use (h:TableIs w base t g (.slice (some ⟨l,0,none⟩) 8 lc) (.slice (some ⟨v,0,none⟩) 8 vc) F us lv) (s:Nat) (hs:s<8) :
 w.cell? ⟨l,s*2,none⟩=some (.int .i64 (us[s]'(by rw[h.ulen];exact hs)).1)∧w.cell? ⟨l,s*2+1,none⟩=some (.int .i64 (us[s]'(by rw[h.ulen];exact hs)).2):=by
 have hul:=h.ulen;refine⟨?_,?_⟩
 · have:=ZF h.l (k:=s*2+0) (u:=.int .i64 (us[s]'(by rw[h.ulen];exact hs)).1) (by rw[YH ZE us s 0 (by omega) (by omega)];rfl)
   simpa using this
 · exact ZF h.l (by rw[YH ZE us s 1 (by omega) (by omega)];rfl)
theorem TableIs.liveOf (h:TableIs w base t g (.slice (some ⟨l,0,none⟩) 8 lc) (.slice (some ⟨v,0,none⟩) 8 vc) F us lv) (s:Nat) (hs:s<8):w.cell? ⟨v,s,none⟩=some (.int .i64 (lv[s]'(by rw[h.llen];exact hs))):=
 JI h.live (by have:=h.llen;simp[QH,hs,this])
end
def YP (lv:List Nat) (s:Nat) (by_:Int):List Nat:=lv.set s (if by_>2147483647-(lv.getD s 0:Nat) then 2147483647 else (max ((lv.getD s 0:Nat)+by_) 0).toNat)
end
section
open Go.RowKit
theorem JAU (w:World) (base t g:Nat) (L V:Value) (F:List Nat) (us:List (Nat×Nat)) (lv:List Nat) (h:TableIs w base t g L V F us lv) (s:Nat) (hs:s<8) :
 Calls Tryz.prog 213 #[.pointer (some ⟨t,0,none⟩),.int .i64 (s:Nat)] w fun e w'=>e=.returned (.bool true)∧w=w':=by
 obtain⟨l,lc,v,vc,rfl,rfl,hlv,htl,htv⟩:=h.forms;obtain⟨c0,c1,c2⟩:=h.cells;have hsI:((s:Nat):Int)<8:=by omega
 go_enter Tryz.func213,Tryz.ntmps213
 go_wp2
 go_ret;exact⟨rfl,rfl⟩
def XE (us:List (Nat×Nat)) (s x:Nat):List (Nat×Nat):=us.set s (x,(us.getD s (0,0)).2)
def KE (us:List (Nat×Nat)) (s x:Nat):List (Nat×Nat):=us.set s ((us.getD s (0,0)).1,x)
theorem JH {us:List (Nat×Nat)} {s:Nat} (h:s<us.length):us.getD s (0,0)=us[s]:=by rw[List.getD_eq_getElem?_getD,List.getElem?_eq_getElem h];rfl
theorem YAi (w:World) (base t g:Nat) (F:List Nat) (us:List (Nat×Nat)) (lv:List Nat) (h:TableAt w base t g F us lv) (s x:Nat) (hs:s<8) (hx:x≤2147483647) :
 Calls Tryz.prog 286 #[.pointer (some ⟨t,0,none⟩),.int .i64 (s:Nat),.int .i64 (x:Nat)] w fun e w'=>e=.returned (.tuple #[])∧TableAt w' base t g F (KE us s x) lv∧Keep F w w':=by
 obtain⟨L,V,h⟩:=h;have hH:=JAU w base t g L V F us lv h s hs;obtain⟨l,lc,v,vc,rfl,rfl,hlv,htl,htv⟩:=h.forms;obtain⟨c0,c1,c2⟩:=h.cells;obtain⟨u1,u2⟩:=h.use s hs;have hul:=h.ulen;have hfr:=XU h.l (s*2+1);have hsI:((s:Nat):Int)<8:=by omega
 have hxI:((x:Nat):Int)≤2147483647:=by omega
 obtain⟨h2,hk2⟩:=h.setUse s 1 hs (by omega) x (us[s].1,x) rfl ⟨(h.uok _ (List.getElem_mem _)).1,hx⟩;have HF:=XC h.foot;have HU:=XC hul

 go_enter Tryz.func286,Tryz.ntmps286
 go_wp2_with (refine hH.mono ?_;clear hH;rintro e w' ⟨rfl,rfl⟩)
 have he:KE us s x=us.set s (us[s].1,x):=by unfold KE;rw[JH (by rw[JA HU];exact hs)]
 refine bodyPost_end (v:=.tuple #[]) (by simp[results,Tryz.results286,go_sem]) rfl ?_;rw[he];exact⟨rfl,⟨_,_,h2⟩,hk2.sub (by rw[JA HF];simp[Value.ownBlock])⟩
def JD (us:List (Nat×Nat)):Nat:=us.countP (fun u=>u.1 == 0)
def QE (us:List (Nat×Nat)):Nat:=us.findIdx (fun u=>u.1 == 0)
theorem VAo (w:World) (base t g:Nat) (F:List Nat) (us:List (Nat×Nat)) (lv:List Nat) (h:TableAt w base t g F us lv) :
 Calls Tryz.prog 154 #[.pointer (some ⟨t,0,none⟩)] w fun e w'=>e=.returned (.int .i64 (JD us:Nat))∧Keep [] w w':=by
 obtain⟨L,V,h⟩:=h;obtain⟨l,lc,v,vc,rfl,rfl,hlv,htl,htv⟩:=h.forms;obtain⟨c0,c1,c2⟩:=h.cells;have hul:=h.ulen;have HU:=XC hul;clear hul
 go_enter Tryz.func154,Tryz.ntmps154
 go_wp2
 go_loopw [2,4,12] (fun r _ i wr=>∃ m:Nat,m≤8∧i=.int .i64 m∧r=.int .i64 (JD (us.take m):Nat)∧Keep [] w wr) (fun _ _ i _=>8-(intOf i).toNat)
 case atStart=>exact⟨0,Nat.zero_le _,rfl,rfl,Keep.refl _ _⟩
 case round=>
  obtain⟨m,hm,rfl,rfl,hk⟩:=hrel
  by_cases hlt:m<8
  · have hml:m<us.length:=by rw[JA HU];exact hlt
    obtain⟨u1,u2⟩:=(h.keep0 hk).use m hlt;have hll:=Vi (h.keep0 hk).l
    have hsn:JD (us.take (m+1))=JD (us.take m)+(if us[m].1 == 0 then 1 else 0):=by
     rw[List.take_succ_eq_append_getElem hml,JD,JD,List.countP_append,List.countP_singleton]
    have hle:JD (us.take m)≤8:=by
     have:=List.countP_le_length (p:=fun u:Nat×Nat=>u.1 == 0) (l:=us.take m);rw[List.length_take] at this;unfold JD;omega
    have HS:=XC hsn;clear hsn;generalize JD (us.take m)=q at *;have hx:us[m].1=us[m].1:=rfl;generalize us[m]=p at *;obtain⟨p1,p2⟩:=p;simp only at u1 u2
    by_cases hp:p1=0
    · subst hp
      go_wp2
      go_roundw
      case rel=>exact⟨m+1,by omega,by go_num,by rw[JA HS];simp,hk.alloc _⟩
      case measure=>simp[intOf];omega
    · have hp':((p1:Nat):Int)≠0:=by omega
      go_wp2
      go_roundw
      case rel=>exact⟨m+1,by omega,by go_num,by rw[JA HS];simp[hp],hk.alloc _⟩
      case measure=>simp[intOf];omega
  · obtain rfl:m=8:=by omega
    go_wp2
    go_ret;exact⟨KK (by rw[List.take_of_length_le (by rw[JA HU];exact Nat.le_refl _)]),hk⟩
end
end Go.Proofs.YtkonbpfbjiepfaaGreat
