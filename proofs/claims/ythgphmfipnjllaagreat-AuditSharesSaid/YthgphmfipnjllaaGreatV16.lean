/- Lemmas of the proof, with their conditions. -/
import Derived.Test.YthgphmfipnjllaaGreatV15
namespace Go.Proofs.YthgphmfipnjllaaGreat
set_option linter.unusedSimpArgs false
set_option linter.unusedVariables false
set_option maxHeartbeats 2000000
set_option maxRecDepth 20000
section
open Go.RowKit
def itF (i:PItem):List (Nat×Nat):=[(1,i.k),(1,i.b),(1,i.c),(4,i.v)]
def ZL (is:List PItem):List UInt8:=fields (is.flatMap itF)
theorem QS (l m:List (Nat×Nat)):widths (l++m)=widths l+widths m:=by
 induction l with
 | nil=>simp[widths]
 | cons p l ih=>obtain⟨k,n⟩:=p;simp[widths,ih,Nat.add_assoc]
@[simp] theorem length_itemB (is:List PItem):(ZL is).length=7*is.length:=by
 unfold ZL
 rw[length_fields]
 induction is with
 | nil=>rfl
 | cons i is ih=>rw[List.flatMap_cons,QS,ih];simp[itF,widths];omega
theorem JAT (is:List PItem) (i:PItem):ZL (is++[i])=ZL is++[i.k,i.b,i.c].flatMap (le 1)++[i.v].flatMap (le 4):=by
 unfold ZL
 rw[List.flatMap_append,KF,List.flatMap_singleton,List.append_assoc]
 simp[itF,fields]
theorem XAB {N:Nat} {H:List UInt8} (h:H.length=N):KP N H=H:=by
 unfold KP
 rw[h,Nat.sub_self];simp
theorem YAH (g n c:Nat) (is:List PItem) (w:World) (ha:Rd w (some ⟨g,0,none⟩) (n*4) (is.flatMap itc)) (hl:is.length=n) (hm:∀ i∈is,i.May) (h6:n≤6) :
 Calls Tryz.prog 343 #[.slice (some ⟨g,0,none⟩) n c] w fun e w'=>∃ u,e=.returned (.tuple #[u,.int .i64 0])∧w'.ownsRow w.heap.size 5 1 u (7*n) (bys (ZL is))∧Keep [] w w':=by
 have HL:=ZB hl
 clear hl
 have h6I:((n:Nat):Int)≤6:=by omega
 obtain⟨N,hN7⟩:∃ N,N=7*n:=⟨_,rfl⟩
 have hN:=KBC N (by omega) w
 have hw7:IntKind.i64.wrap (7*(n:Nat):Int)=(N:Nat):=by rw[IntKind.wrap_i64];omega
 rw[← hN7]
 have HN:=ZB hN7
 clear hN7
 go_enter Tryz.func343,Tryz.ntmps343
 go_wp2_with (refine hN.mono ?_;clear hN;rintro e w1 ⟨r,rv,rfl,hR,hK⟩)
 go_loopw [6,16] (fun _ i wr=>∃ k:Nat,k≤n∧i=.int .i64 k∧RowZ wr w.heap.size r rv N (ZL (is.take k))∧Keep [] w wr) (fun _ i _=>n-(intOf i).toNat)
 case atStart=>exact⟨0,Nat.zero_le _,rfl,hR,hK⟩
 case round=>
  clear hR hK
  obtain⟨k,hk,rfl,hR,hK⟩:=hrel
  by_cases hlt:k<n
  · have hkl:k<is.length:=by rw[QA HL];exact hlt
    have hltI:((k:Nat):Int)<(n:Nat):=by omega
    have hgl:g<wr.heap.size:=(YC JE (ha.keep hK) hkl (j:=0) (by omega)).1
    have c0:=(YC JE (ha.keep hK) hkl (j:=0) (by omega)).2
    have c1:=(YC JE (ha.keep hK) hkl (j:=1) (by omega)).2
    have c2:=(YC JE (ha.keep hK) hkl (j:=2) (by omega)).2
    have c3:=(YC JE (ha.keep hK) hkl (j:=3) (by omega)).2
    have htk:is.take (k+1)=is.take k++[is[k]]:=List.take_succ_eq_append_getElem hkl
    have hlk:(ZL (is.take k)).length=7*k:=by rw[length_itemB,List.length_take];omega
    have hmi:=hm _ (List.getElem_mem hkl)
    have hT:=fun W=>Vi _ hmi W
    have hbd:=hmi.bounds
    generalize is[k]=it at *
    obtain⟨ik,ib,ic,iv⟩:=it
    simp only[itc,List.getElem?_cons_zero,List.getElem?_cons_succ,Nat.add_zero] at c0 c1 c2 c3 hbd hT
    have HTK:=ZB htk
    clear hmi htk
    obtain⟨b1,b2,b3,b4⟩:=hbd
    have hBk:=Blk.new wr 114 #[.int .i64 ik,.int .i64 ib,.int .i64 ic,.int .i64 iv]
    go_wp2_with fail
    refine(hT _).mono ?_
    rintro e w2 ⟨rfl,hk2⟩
    clear hT
    have hB1:=hBk.keep0 hk2
    clear hBk
    obtain⟨d0,d1,d2,d3⟩:=ZD hB1
    have hlt2:=hB1.lt
    go_wp2_with fail
    have hR:=(hR.keep0 ((Keep.refl _ _).alloc (.cells #[.int .i64 ik,.int .i64 ib,.int .i64 ic,.int .i64 iv] 114))).keep0 hk2
    have hP:=Kw (k:=1) hR (by omega) [ik,ib,ic] (by simp;omega) (by simp) (by have:=QA HN;rw[hlk];simp;omega) #[.int .i64 ik,.int .i64 ib,.int .i64 ic] rfl 3 rfl
    have hKa:=(hK.alloc (.cells #[.int .i64 ik,.int .i64 ib,.int .i64 ic,.int .i64 iv] 114)).trans0 hk2
    clear hK
    go_wp2_with (
     (refine hP.mono ?_)
     clear hP
     rintro e w3 ⟨rfl,hR3,hK3⟩
     have hB3:=hR.x.blk hK3 hB1 (by decide) (by decide)
     clear hk2 d0 d1 d2 d3 hlt2 hB1
     obtain⟨d0,d1,d2,d3⟩:=ZD hB3
     have hlt2:=hB3.lt)
    have hK3':=hKa.trans hK3 (fun x hx=>.inr (hR.fresh x hx))
    have hP:=Kw (k:=4) hR3 (by omega) [iv] (by simp;omega) (by simp) (by have:=QA HN;rw[List.length_append,hlk];simp[length_le];omega) #[.int .i64 iv] rfl 1 rfl
    go_wp2_with (
     (refine hP.mono ?_)
     clear hP
     rintro e w4 ⟨rfl,hR4,hK4⟩)
    go_roundw
    case rel=>exact⟨k+1,by omega,by go_num,by rw[QA HTK,JAT];exact hR4,hK3'.trans hK4 (fun x hx=>.inr (hR3.fresh x hx))⟩
    case measure=>simp[intOf];omega
  · obtain rfl:n=k:=by omega
    go_wp2_with (refine(Zt hR).mono ?_;rintro e w2 ⟨u,rfl,hu,hk2⟩)
    go_ret2
    rw[List.take_of_length_le (by rw[QA HL];exact Nat.le_refl _),XAB (by rw[length_itemB,QA HL];exact(QA HN).symm)] at hu
    exact⟨u,rfl,VC hu hK.size,hK.trans0 hk2⟩
end
section
open Go.RowKit
structure POp where
 k:Int
 b:Int
 c:Int
 e:Int
 d:List UInt8
def opc (p:Value×POp):List Value:=[.int .i64 p.2.k,.int .i64 p.2.b,.int .i64 p.2.c,.int .i64 p.2.e,p.1]
@[simp] theorem length_opc (p:Value×POp):(opc p).length=5:=rfl
theorem KAW (os:List (Value×POp)) (k:Nat):(os.flatMap opc).drop (k*5)=(os.drop k).flatMap opc:=by
 induction k generalizing os with
 | zero=>simp
 | succ k ih=>
   cases os with
   | nil=>simp
   | cons p os=>rw[List.flatMap_cons,List.drop_succ_cons,← ih,Nat.succ_mul,List.drop_append,List.drop_of_length_le (by simp)];simp
theorem YAp (os:List (Value×POp)) (i j:Nat) (hi:i<os.length) (hj:j<5):(os.flatMap opc)[i*5+j]? = (opc os[i])[j]? := by
 have h1:=KAW os i
 have h2:((os.flatMap opc).drop (i*5))[j]? = (os.flatMap opc)[i*5+j]? := List.getElem?_drop
 rw[← h2,h1,List.drop_eq_getElem_cons hi,List.flatMap_cons,List.getElem?_append_left (by simpa using hj)]
def OpsRd (w:World) (A:Option Addr) (n:Nat) (os:List (Value×POp)):Prop:=Rd w A (n*5) (os.flatMap opc)∧os.length=n
theorem OpsRd.at_ {w:World} {A:Option Addr} {n:Nat} {os:List (Value×POp)} (h:OpsRd w A n os) {i:Nat} (hi:i<n) (hl:i<os.length) :
 ∃ b o,A=some ⟨b,o,none⟩∧b<w.heap.size∧w.cell? ⟨b,o+i*5,none⟩=some (.int .i64 os[i].2.k)∧w.cell? ⟨b,o+i*5+1,none⟩=some (.int .i64 os[i].2.b)∧w.cell? ⟨b,o+i*5+2,none⟩=some (.int .i64 os[i].2.c) ∧
   w.cell? ⟨b,o+i*5+3,none⟩=some (.int .i64 os[i].2.e)∧w.cell? ⟨b,o+i*5+4,none⟩=some os[i].1:=by
 obtain⟨b,o,rfl,hb,hc⟩:=h.1.2 (by omega)
 have hg:=fun j hj=>YAp os i j hl hj
 refine⟨b,o,rfl,hb,?_,?_,?_,?_,?_⟩
 · have:=hc (i*5+0) _ ((hg 0 (by omega)).trans rfl);simpa [Nat.add_assoc] using this
 · have:=hc (i*5+1) _ ((hg 1 (by omega)).trans rfl);simpa [Nat.add_assoc] using this
 · have:=hc (i*5+2) _ ((hg 2 (by omega)).trans rfl);simpa [Nat.add_assoc] using this
 · have:=hc (i*5+3) _ ((hg 3 (by omega)).trans rfl);simpa [Nat.add_assoc] using this
 · have:=hc (i*5+4) _ ((hg 4 (by omega)).trans rfl);simpa [Nat.add_assoc] using this
theorem OpsRd.keepIf {w w':World} {A:Option Addr} {n:Nat} {os:List (Value×POp)} {l:List Nat} (h:OpsRd w A n os) (hk:Keep l w w') (hg:∀ a,A=some a→a.block∉l):OpsRd w' A n os:=⟨h.1.keepIf hk hg,h.2⟩
theorem OpsRd.keep {w w':World} {A:Option Addr} {n:Nat} {os:List (Value×POp)} (h:OpsRd w A n os) (hk:Keep [] w w'):OpsRd w' A n os:=⟨h.1.keep hk,h.2⟩
end
section
open Go.RowKit
def put5 (w:World) (g:Nat) (x0 x1 x2 x3 x4:Value):World:=
 ((((w.setCell ⟨g,0,none⟩ x0).setCell ⟨g,1,none⟩ x1).setCell ⟨g,2,none⟩ x2).setCell ⟨g,3,none⟩ x3).setCell ⟨g,4,none⟩ x4
theorem Blk.put5 {w:World} {g:Nat} {t:TypeId} {y0 y1 y2 y3 y4:Value} (h:Blk w g t #[y0,y1,y2,y3,y4]) (x0 x1 x2 x3 x4:Value):Blk (Go.Proofs.YthgphmfipnjllaaGreat.put5 w g x0 x1 x2 x3 x4) g t #[x0,x1,x2,x3,x4]:=by
 have:=((((h.set 0 x0).set 1 x1).set 2 x2).set 3 x3).set 4 x4
 simpa [Go.Proofs.YthgphmfipnjllaaGreat.put5] using this
theorem Keep.put5 (w:World) (g:Nat) (x0 x1 x2 x3 x4:Value):Keep [g] w (Go.Proofs.YthgphmfipnjllaaGreat.put5 w g x0 x1 x2 x3 x4):=
 ((((((Keep.refl [g] w).setCell (p:=⟨g,0,none⟩) (.inl (by simp)) _).setCell (p:=⟨g,1,none⟩) (.inl (by simp)) _).setCell (p:=⟨g,2,none⟩) (.inl (by simp)) _).setCell (p:=⟨g,3,none⟩) (.inl (by simp)) _).setCell (p:=⟨g,4,none⟩) (.inl (by simp)) _)
end
section
open Go.RowKit
theorem VBC {w4:World} {N:Nat} (j:Nat) (hj:j<5) (hB:Blk w4 N 183 #[.int .i64 0,.int .i64 0,.int .i64 0,.int .i64 0,.int .i64 0]) :
 Blk (w4.setCell ⟨N,j,none⟩ (.int .i64 0)) N 183 #[.int .i64 0,.int .i64 0,.int .i64 0,.int .i64 0,.int .i64 0]∧Keep [N] w4 (w4.setCell ⟨N,j,none⟩ (.int .i64 0)):=by
 refine⟨?_,(Keep.refl _ _).setCell (.inl (by simp)) _⟩
 have:=hB.set j (.int .i64 0)
 obtain rfl | rfl | rfl | rfl | rfl:j=0∨j=1∨j=2∨j=3∨j=4:=by omega
 all_goals simpa using this
theorem XAT (A B:Option Addr) (c d:Nat) (w:World) (ha:Rd w A 64 (bys (List.replicate 64 0))) (hb:Rd w B 64 (bys (List.replicate 64 0))) :
 Calls Tryz.prog 205 #[.slice A 64 c,.slice B 64 d] w fun e w'=>e=.returned (.tuple #[.agg #[.int .i64 0,.int .i64 0,.int .i64 0,.int .i64 0,.int .i64 0],.int .i64 0,.int .i64 2])∧Keep [] w w':=by
 have hD:=fun W (hk:Keep [] w W)=>Qt A c W (ha.keep hk)
 have hE:=fun W (hk:Keep [] w W)=>Qt B d W (hb.keep hk)
 have hBk:=Blk.new w 183 #[.int .i64 0,.int .i64 0,.int .i64 0,.int .i64 0,.int .i64 0]
 go_enter Tryz.func205,Tryz.ntmps205
 go_wp2_with (
  (refine(hD _ ((Keep.refl _ _).alloc _)).mono ?_)
  clear hD
  rintro e w2 ⟨rfl,hk2⟩)
 have hk12:Keep [] w w2:=((Keep.refl _ _).alloc _).trans0 hk2
 have hE':=hE _ (hk12.alloc (.cells #[.int .i64 0,.int .i64 0,.int .i64 0,.int .i64 0,.int .i64 0] 183))
 clear hE
 have hBx:=hBk.keep0 hk2
 go_wp2_with (
  (refine hE'.mono ?_)
  clear hE'
  rintro e w3 ⟨rfl,hk3⟩
  have hB3:=(hBx.keep0 ((Keep.refl _ _).alloc (.cells #[.int .i64 0,.int .i64 0,.int .i64 0,.int .i64 0,.int .i64 0] 183))).keep0 hk3
  have hB4:=hB3.keep0 ((Keep.refl _ _).alloc (.cells #[.int .i64 0,.int .i64 0,.int .i64 0,.int .i64 0,.int .i64 0] 183))
  obtain⟨x0,x1,x2,x3,x4⟩:=YI hB4
  have f0:=hB4.frozen 0
  have f1:=hB4.frozen 1
  have f2:=hB4.frozen 2
  have f3:=hB4.frozen 3
  have f4:=hB4.frozen 4
  have hlt4:=hB4.lt)
 have z0:=VBC 0 (by omega) hB4
 have z1:=VBC 1 (by omega) z0.1
 have z2:=VBC 2 (by omega) z1.1
 have z3:=VBC 3 (by omega) z2.1
 have z4:=VBC 4 (by omega) z3.1
 have hK:=((((((((hk12.alloc _).trans0 hk3).alloc _)).trans z0.2 (fun x hx=>.inr (by simp at hx;omega))).trans z1.2 (fun x hx=>.inr (by simp at hx;omega))).trans z2.2 (fun x hx=>.inr (by simp at hx;omega))).trans z3.2 (fun x hx=>.inr (by simp at hx;omega))).trans z4.2 (fun x hx=>.inr (by simp at hx;omega))
 obtain⟨y0,y1,y2,y3,y4⟩:=YI z4.1
 refine bodyPost_ret (v:=.tuple #[.agg #[.int .i64 0,.int .i64 0,.int .i64 0,.int .i64 0,.int .i64 0],.int .i64 0,.int .i64 2]) (by simp[results,Tryz.results205,go_sem,y0,y1,y2,y3,y4]) rfl ?_
 exact⟨rfl,hK⟩
end
section
open Go.RowKit
structure PSlot where
 v:Value
 o:POp
 is:Bool
def POp.zero:POp:=⟨0,0,0,0,[]⟩
def PSlot.none_:PSlot:=⟨.slice none 0 0,POp.zero,false⟩
namespace WinIs
variable {w w':World} {base x:Nat} {L:Value} {F l:List Nat} {next:Nat} {sl:List PSlot}
end WinIs
namespace WinAt
variable {w w':World} {base x:Nat} {F l:List Nat} {next:Nat} {sl:List PSlot}
end WinAt
end
section
open Go.RowKit
namespace OHold
variable {w w':World} {B:Nat} {F F':List Nat} {v:Value} {os:List (Value×POp)}
end OHold
end
end Go.Proofs.YthgphmfipnjllaaGreat
