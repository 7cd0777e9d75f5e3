/- Lemmas of the proof, with their conditions. -/
import Derived.Test.YthgphmfipnjllaaGreatV16
import Derived.Shelf.RegionOpen
namespace Go.Proofs.YthgphmfipnjllaaGreat
set_option linter.unusedSimpArgs false
set_option linter.unusedVariables false
set_option maxHeartbeats 2000000
set_option maxRecDepth 20000
section
open Go.RowKit Go.Shelf
attribute [local go_sem] Oper.semAt_some
def JL (is:List PItem):Nat:=is.findIdx (fun i=>i.k == 7)
def KL (is:List PItem):Bool:=decide (JL is<is.length)
theorem YAQ (g n c:Nat) (is:List PItem) (w:World) (ha:Rd w (some ⟨g,0,none⟩) (n*4) (is.flatMap itc)) (hl:is.length=n) (h6:n≤6) :
 Calls Tryz.prog 317 #[.slice (some ⟨g,0,none⟩) n c,.func (.func 318) #[] #[]] w fun e w'=>e=.returned (.int .i64 (if JL is<n then (JL is:Nat) else (-1:Int)))∧Keep [] w w':=by
 have hP:∀ (p1 p2 p3 p4:Nat) W,Calls Tryz.prog 318 #[.agg #[.int .i64 p1,.int .i64 p2,.int .i64 p3,.int .i64 p4]] W fun e w'=>e=.returned (.bool (decide (p1=7)))∧Keep [] W w':=fun p1 p2 p3 p4 W=>by
  go_enter Tryz.func318,Tryz.ntmps318
  go_wp2
  go_ret
  exact⟨XK (by rw[Bool.eq_iff_iff];simp;omega),(Keep.refl _ _).alloc _⟩
 obtain⟨res,hres⟩:∃ r:Int,r=(if JL is<n then ((JL is:Nat):Int) else (-1:Int)):=⟨_,rfl⟩
 rw[← hres]
 have HRES:=ZB hres
 have HL:=ZB hl
 clear hl hres
 go_enter Tryz.func317,Tryz.ntmps317
 go_wp2
 go_loopw [5,8] (fun _ i wr=>∃ m:Nat,m≤n∧m≤JL is∧i=.int .i64 m∧Keep [] w wr) (fun _ i _=>n-(intOf i).toNat)
 case atStart=>exact⟨0,Nat.zero_le _,Nat.zero_le _,rfl,Keep.refl _ _⟩
 case round=>
  obtain⟨m,hm,hmx,rfl,hk⟩:=hrel
  by_cases hlt:m<n
  · have hml:m<is.length:=by rw[QA HL];exact hlt
    have hltI:((m:Nat):Int)<(n:Nat):=by omega
    have hgl:g<wr.heap.size:=(YC JE (ha.keep hk) hml (j:=0) (by omega)).1
    have c0:=(YC JE (ha.keep hk) hml (j:=0) (by omega)).2
    have c1:=(YC JE (ha.keep hk) hml (j:=1) (by omega)).2
    have c2:=(YC JE (ha.keep hk) hml (j:=2) (by omega)).2
    have c3:=(YC JE (ha.keep hk) hml (j:=3) (by omega)).2
    have hiff:is[m].k=7↔m=JL is:=by
     constructor
     · intro h
       refine Nat.le_antisymm hmx (Nat.le_of_not_lt fun hc=>?_)
       have:=List.not_of_lt_findIdx (p:=fun i:PItem=>i.k == 7) (xs:=is) (i:=m) hc
       rw[h] at this
       simp at this
     · intro h
       have:=List.findIdx_getElem (p:=fun i:PItem=>i.k == 7) (xs:=is) (w:=by unfold JL at h;omega)
       have h2:is[m]=is[is.findIdx (fun i=>i.k == 7)]'(by unfold JL at h;omega):=by congr 1
       rw[h2]
       exact beq_iff_eq.1 this
    have HI:=ZB hiff
    have hmx':=ZB hmx
    clear hiff hmx
    generalize is[m]=it at *
    obtain⟨ik,ib,ic,iv⟩:=it
    simp only[itc,List.getElem?_cons_zero,List.getElem?_cons_succ,Nat.add_zero] at c0 c1 c2 c3
    have hT:=hP ik ib ic iv
    by_cases h7:ik=7
    · have hmn:=(QA HI).1 h7
      have HM:=ZB hmn
      clear hmn hP HI
      rw[decide_eq_true h7] at hT
      clear h7
      go_wp2_with (refine(hT _).mono ?_;rintro e w1 ⟨rfl,hk1⟩)
      go_ret
      exact⟨VI (a:=((m:Nat):Int)) (by rw[QA HRES,← QA HM,if_pos hlt]),hk.trans0 hk1⟩
    · have hmn:m+1≤JL is:=by
       have h1:=QA hmx'
       have h2:m≠JL is:=fun h=>h7 ((QA HI).2 h)
       omega
      have HM:=ZB hmn
      clear hmn hP HI
      rw[decide_eq_false h7] at hT
      clear h7
      go_wp2_with (refine(hT _).mono ?_;rintro e w1 ⟨rfl,hk1⟩)
      go_roundw
      case rel=>exact⟨m+1,by omega,QA HM,by go_num,hk.trans0 hk1⟩
      case measure=>simp[intOf];omega
  · obtain rfl:m=n:=by omega
    have HM:=ZB hmx
    clear hmx
    go_wp2
    go_ret
    exact⟨VI (a:=(-1:Int)) (by rw[QA HRES,if_neg (by have:=QA HM;omega)]),hk⟩
theorem ZAM (m1 m2 m3 g n c:Nat) (Bv:Value) (is:List PItem) (w:World) (ha:Rd w (some ⟨g,0,none⟩) (n*4) (is.flatMap itc)) (hl:is.length=n) (h6:n≤6) (hB:Bv.oneCell'=true) :
 Calls Tryz.prog 220 #[.agg #[.int .i64 m1,.int .i64 m2,.int .i64 m3,.slice (some ⟨g,0,none⟩) n c,Bv]] w fun e w'=>(∃ v,e=.returned (.tuple #[v,.bool (KL is)]))∧Keep [] w w':=by
 have hI:=fun W (hk:Keep [] w W)=>YAQ g n c is W (ha.keep hk) hl h6
 have hb:=Blk.new w 239 #[.int .i64 m1,.int .i64 m2,.int .i64 m3,.slice (some ⟨g,0,none⟩) n c,Bv]
 have hk0:=(Keep.refl [] w).alloc (.cells #[.int .i64 m1,.int .i64 m2,.int .i64 m3,.slice (some ⟨g,0,none⟩) n c,Bv] 239)
 obtain⟨x0,x1,x2,x3,x4⟩:=ZC hb
 by_cases hx:JL is<n
 · have hn:KL is=true:=by unfold KL;exact decide_eq_true (by omega)
   rw[hn]
   have c3:=fun W (hk:Keep [] w W)=>(YC JE (ha.keep hk) (i:=JL is) (by omega) (j:=3) (by omega))
   simp only[if_pos hx] at hI
   have hgl:=fun W hk=>(c3 W hk).1
   replace c3:=fun W hk=>(c3 W hk).2
   simp only[itc,List.getElem?_cons_zero,List.getElem?_cons_succ] at c3
   obtain⟨nv,hnv⟩:∃ nv,nv=(is[JL is]'(by omega)).v:=⟨_,rfl⟩
   simp only[← hnv] at c3
   clear hnv
   generalize JL is=m at *
   have HC:=ZB c3
   have hltI:((m:Nat):Int)<(n:Nat):=by omega
   clear c3
   go_enter Tryz.func220,Tryz.ntmps220
   go_wp2_with (
    refine(hI _ hk0).mono ?_
    clear hI
    rintro e w1 ⟨rfl,hk1⟩
    clear x0 x1 x2 x3 x4
    have hk01:=hk0.trans0 hk1
    obtain⟨x0,x1,x2,x3,x4⟩:=ZC (hb.keep0 hk1)
    have hg1:=hgl _ hk01
    have hc:=QA HC _ hk01)
   go_ret2
   exact⟨⟨_,rfl⟩,hk01⟩
 · have hn:KL is=false:=by unfold KL;exact decide_eq_false (by omega)
   rw[hn]
   simp only[if_neg hx] at hI
   go_enter Tryz.func220,Tryz.ntmps220
   go_wp2_with (refine(hI _ hk0).mono ?_;clear hI;rintro e w1 ⟨rfl,hk1⟩)
   go_ret2
   exact⟨⟨_,rfl⟩,hk0.trans0 hk1⟩
end
end Go.Proofs.YthgphmfipnjllaaGreat
