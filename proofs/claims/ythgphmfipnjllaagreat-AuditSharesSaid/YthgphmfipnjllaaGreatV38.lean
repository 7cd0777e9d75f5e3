/- Lemmas of the proof, with their conditions. -/
import Derived.Test.YthgphmfipnjllaaGreatV36
import Derived.WideKeyEntry
import Derived.DeepKeys5
namespace Go.Proofs.YthgphmfipnjllaaGreat
set_option linter.unusedSimpArgs false
set_option linter.unusedVariables false
section
open Go.RowKit Go.Shelf Go.ChangeShapes Go.WideShapes Go.MapKept Go.ChangeMaps Go.WideElems
open Go.WideMaps (KeyLaw)
def Vn (a b:Nat):Value:=.agg #[.int .i64 a,.int .i64 b]
theorem bkLaw:KeyLaw Tryz.prog 135:=deep_law_gate (by kernel_rfl) (by decide +kernel) (by decide +kernel) (by kernel_rfl) (by kernel_rfl)
theorem bkKeyed:Maps.Keyed Tryz.prog 135:=Maps.Keyed.of_law bkLaw
theorem bkKeyType:Tryz.prog.keyType 135=true:=by kernel_rfl
theorem bkCells:Tryz.prog.cellsOf 135=2:=by kernel_rfl
theorem intCells:Tryz.prog.cellsOf 3=1:=by kernel_rfl
theorem VAJ (a b:Nat) (ha:a≤100000) (hb:b≤100000):∃ l,keyOf Tryz.prog 135 (Vn a b)=some (.string l):=by
 obtain⟨m,hm⟩:∃ m,Tryz.prog.types.size=m+1:=⟨Tryz.prog.types.size-1,by decide +kernel⟩
 have wa:(Lit.int .i64 (a:Nat)).wf=true:=by simp[Lit.wf,IntKind.min,IntKind.max,IntKind.bits,IntKind.signed];omega
 have wb:(Lit.int .i64 (b:Nat)).wf=true:=by simp[Lit.wf,IntKind.min,IntKind.max,IntKind.bits,IntKind.signed];omega
 unfold keyOf
 simp only[Tryz.underlying135]
 rw[if_pos (by simp[bkKeyType,Vn,Value.formed,Tryz.underlying135,bkCells]),hm]
 unfold Program.keyLits
 simp only[Tryz.underlying135,Vn,Value.cells]
 rw[if_pos (by simp[bkCells])]
 have h1:∀ n:Nat,(Lit.int .i64 (n:Nat)).wf=true→Tryz.prog.keyLits (m+1) 3 [.int .i64 (n:Nat)]=some [.int .i64 (n:Nat)]:=fun n hn=>by
  unfold Program.keyLits
  simp only[Tryz.underlying3]
  rw[if_pos ⟨trivial,hn⟩]
 simp only[List.mapM_cons,List.mapM_nil,List.drop_zero,List.drop_succ_cons,intCells,List.take_succ_cons,List.take_zero,h1 _ wa,h1 _ wb]
 exact⟨_,rfl⟩
def MapIs (W:World) (mb N:Nat) (f:Nat→Nat→Nat):Prop:=
 ∃ (n:Nat) (D:DataW Unit),W.ownsMap Tryz.prog 135 (plainElem Tryz.prog 3) mb n D∧n≤N∧∀ a b l,keyOf Tryz.prog 135 (Vn a b)=some l→D.atKey l (.lit (.int .i64 0))=.lit (.int .i64 (f a b))
theorem MapIs.same {W W':World} {mb N:Nat} {f:Nat→Nat→Nat} (h:MapIs W mb N f) (he:W'.heap[mb]? = W.heap[mb]?):MapIs W' mb N f:=by
 obtain⟨n,D,⟨es,clock,h1,h2,h3⟩,hn,hf⟩:=h
 exact⟨n,D,⟨es,clock,he.trans h1,h2,h3⟩,hn,hf⟩
theorem MapIs.lt {W:World} {mb N:Nat} {f:Nat→Nat→Nat} (h:MapIs W mb N f):mb<W.heap.size:=by
 obtain⟨n,D,⟨es,clock,h1,_⟩,_⟩:=h
 exact(Array.getElem?_eq_some_iff.1 h1).1
theorem MapIs.keep {W W':World} {mb N:Nat} {f:Nat→Nat→Nat} {l:List Nat} (h:MapIs W mb N f) (hk:Keep l W W') (hm:mb∉l):MapIs W' mb N f:=h.same (hk.block mb h.lt hm)
theorem MapIs.isMap {W:World} {mb N:Nat} {f:Nat→Nat→Nat} (h:MapIs W mb N f):∃ es clock,W.heap[mb]? = some (.map es clock):=by
 obtain⟨n,D,⟨es,clock,h1,_⟩,_⟩:=h
 exact⟨es,clock,h1⟩
theorem MapIs.made (W:World):MapIs (W.alloc (.map #[] 0)) W.heap.size 0 (fun _ _=>0):=
 ⟨0,_,World.ownsMap_made W _ _ _,Nat.le_refl _,fun a b l _=>rfl⟩
theorem Vv (W:World):(zeroValue 3).run Tryz.prog W=.ok (.int .i64 0) W:=by simp[go_sem]
theorem mapUnd:Tryz.prog.underlying 124=some (.map 135 3):=Tryz.underlying124
theorem MapIs.look {W:World} {mb N:Nat} {f:Nat→Nat→Nat} (h:MapIs W mb N f) (a b:Nat) (ha:a≤100000) (hb:b≤100000) :
 (Instr.lookup 124 (.map (some mb)) (Vn a b) false).run Tryz.prog W=.ok (.int .i64 (f a b)) W:=by
 obtain⟨n,D,h1,_,hf⟩:=h
 obtain⟨l,hl⟩:=VAJ a b ha hb
 obtain⟨c,hrun,hat,_⟩:=h1.lookup_int bkKeyed mapUnd Tryz.underlying3 (Vv W) hl
 have h2:=(hf a b _ hl).symm.trans hat
 have h3:((f a b:Nat):Int)=c:=by cases h2;rfl
 rw[hrun,h3]
def KBA (f:Nat→Nat→Nat) (a b:Nat):Nat→Nat→Nat:=fun x y=>if x=a∧y=b then f a b+1 else f x y
theorem Jd {W:World} {b:Nat} {es:Array MapEntry} {clock:Nat} (hb:W.heap[b]? = some (.map es clock)) (o:Obj):Keep [b] W (setBlock W b o):=by
 refine⟨rfl,rfl,rfl,by simp[setBlock],fun k hk hn=>heap_setBlock_other hb o ?_⟩
 simp at hn
 omega
theorem VAq {a b x y:Nat} (h:Vn a b=Vn x y):a=x∧b=y:=by
 unfold Vn at h
 simp at h
 omega
theorem MapIs.more {W:World} {mb N:Nat} {f:Nat→Nat→Nat} (h:MapIs W mb N f) (a b:Nat) (ha:a≤100000) (hb:b≤100000) (hN:N≤100000) (hfab:f a b≤100000) :
 ∃ (v0:Value) (st:Nat) (W1:World),(Instr.mapEntry 124 (.map (some mb)) (Vn a b)).run Tryz.prog W=.ok (.tuple #[v0,goInt st]) W1∧Keep [mb] W W1∧W1.heap.size=W.heap.size ∧
   (Instr.lookup 124 (.map (some mb)) (Vn a b) false).run Tryz.prog W1=.ok (.int .i64 (f a b)) W1 ∧
   ∃ W2,(Instr.entryStore 124 (.map (some mb)) (goInt st) (.int .i64 ((f a b+1:Nat):Int))).run Tryz.prog W1=.ok () W2∧Keep [mb] W W2∧W2.heap.size=W.heap.size∧MapIs W2 mb (N+1) (KBA f a b):=by
 have hlk:=h.look a b ha hb
 obtain⟨n,D,hown,hn,hf⟩:=h
 obtain⟨l,hl⟩:=VAJ a b ha hb
 have hown0:=hown
 obtain⟨es,clock,hbl,F,hs,hD⟩:=hown
 have hwf:(Lit.int .i64 ((f a b+1:Nat):Int)).wf=true:=by simp[Lit.wf,IntKind.min,IntKind.max,IntKind.bits,IntKind.signed];omega
 obtain⟨v0,st,es1,clock1,hrun,-,hst⟩:=entry_then_store bkLaw mapUnd (fun u=>Vv u) hbl F hl
 have hk1:=Jd hbl (.map es1 clock1)
 have hz1:(setBlock W mb (.map es1 clock1)).heap.size=W.heap.size:=by simp[setBlock]
 have hb1:=heap_setBlock_same hbl (.map es1 clock1)
 obtain⟨es',clock',hs1,hu1⟩:=hst (setBlock W mb (.map es1 clock1)) (.int .i64 ((f a b+1:Nat):Int)) hb1
 obtain⟨w',hu2,how2,-⟩:=hown0.update bkKeyed mapUnd (by have:maxLen=9223372036854775807:=rfl;omega) hl (plainElem_int (H:=Unit) Tryz.underlying3 hwf)
 have hw':w'=setBlock W mb (.map es' clock'):=((Result.ok.inj (hu1.symm.trans hu2)).2).symm
 subst hw'
 refine⟨v0,st,_,hrun,hk1,hz1,?_,_,hs1,hk1.trans (Jd hb1 _) (fun x hx=>.inl hx),by simp[setBlock],?_⟩
 · have hkb:∀ (es':Array MapEntry) (c':Nat) (v:Value),(Instr.mapEntry 124 (.map (some mb)) (Vn a b)).run Tryz.prog W=.ok v (setBlock W mb (.map es' c'))→es1=es'∧clock1=c':=fun es' c' v he=>by
    have h1:=(Result.ok.inj (hrun.symm.trans he)).2
    have h2:=heap_setBlock_same hbl (.map es' c')
    rw[← h1,hb1] at h2
    cases h2
    exact⟨rfl,rfl⟩
   have hfin:∀ j e,(Instr.findKey 135 (Vn a b) es1.toList).run Tryz.prog (setBlock W mb (.map es1 clock1))=.ok (some (j,e)) (setBlock W mb (.map es1 clock1)) →
    (Instr.lookup 124 (.map (some mb)) (Vn a b) false).run Tryz.prog (setBlock W mb (.map es1 clock1))=.ok e (setBlock W mb (.map es1 clock1)):=fun j e h1=>by
    simp[Instr.lookup,run_underlying mapUnd,MapKept.run_getObj_map hb1,bkLaw.check _ _ hl,h1,Result.andThen]
   rcases bkLaw.find W hl es.toList F.keys with⟨h1,h2⟩ | ⟨j,e0,h1,h2,h3⟩
   · obtain⟨rfl,rfl⟩:=hkb (es.push ⟨Vn a b,.int .i64 0,clock⟩) (clock+1) (.tuple #[.int .i64 0,goInt clock]) (by
      simp[Instr.mapEntry,run_underlying mapUnd,MapKept.run_getObj_map hbl,bkLaw.check W false hl,h1,Vv,MapKept.run_setObj_map _ hbl,Result.andThen,setBlock])
     have hv0:(Instr.lookup 124 (.map (some mb)) (Vn a b) false).run Tryz.prog W=.ok (.int .i64 0) W:=by
      simp[Instr.lookup,run_underlying mapUnd,MapKept.run_getObj_map hbl,bkLaw.check _ _ hl,h1,Vv,Result.andThen]
     have hz:((f a b:Nat):Int)=0:=by have:=(Result.ok.inj (hlk.symm.trans hv0)).1;simpa using this
     have hkeys:∀ e∈(es.push ⟨Vn a b,.int .i64 0,clock⟩).toList,∃ l',keyOf Tryz.prog 135 e.key=some l':=fun e he=>by
      rw[Array.toList_push] at he
      rcases List.mem_append.1 he with he | he
      · exact F.keys e he
      · simp at he;subst he;exact⟨_,hl⟩
     rcases bkLaw.find (setBlock W mb (.map (es.push ⟨Vn a b,.int .i64 0,clock⟩) (clock+1))) hl _ hkeys with⟨_,g2⟩ | ⟨j,e0,g1,g2,g3⟩
     · exact absurd rfl (g2 ⟨Vn a b,.int .i64 0,clock⟩ (by simp))
     · have he0:e0.val=.int .i64 0:=by
        have:=List.mem_of_getElem? g2
        rw[Array.toList_push] at this
        rcases List.mem_append.1 this with he | he
        · exact absurd g3 (h2 e0 he)
        · simp at he;subst he;rfl
       rw[he0] at g1
       rw[hz]
       exact hfin _ _ g1
   · have hj:es[j]? = some e0:=by simpa using h2
     have hsame:es.modify j (fun e=>{ e with key:=Vn a b })=es:=by
      apply Array.ext'
      rw[Array.toList_modify,modify_eq_set _ _ _ _ h2]
      have:({ e0 with key:=Vn a b }:MapEntry)=e0:=by rw[← h3]
      rw[this]
      exact set_self _ _ _ h2
     obtain⟨rfl,rfl⟩:=hkb es clock (.tuple #[e0.val,goInt e0.born]) (by
      simp[Instr.mapEntry,run_underlying mapUnd,MapKept.run_getObj_map hbl,bkLaw.check W false hl,h1,hj,h3,bkLaw.stays W hl,hsame,MapKept.run_setObj_map _ hbl,Result.andThen,setBlock])
     have hval:e0.val=.int .i64 (f a b:Nat):=by
      have h5:(Instr.lookup 124 (.map (some mb)) (Vn a b) false).run Tryz.prog W=.ok e0.val W:=by
       simp[Instr.lookup,run_underlying mapUnd,MapKept.run_getObj_map hbl,bkLaw.check _ _ hl,h1,Result.andThen]
      exact((Result.ok.inj (hlk.symm.trans h5)).1).symm
     rcases bkLaw.find (setBlock W mb (.map es1 clock1)) hl _ F.keys with⟨_,g2⟩ | ⟨j',e1,g1,g2,g3⟩
     · exact absurd h3 (g2 e0 (List.mem_of_getElem? h2))
     · have:e1=e0:=by
        have hnd:=F.stamped.2.2
        have m1:=List.getElem?_eq_some_iff.1 g2
        have m2:=List.getElem?_eq_some_iff.1 h2
        obtain⟨i1,q1⟩:=m1
        obtain⟨i2,q2⟩:=m2
        have hne:=List.pairwise_iff_getElem.1 hnd
        have:j'=j:=by
         rcases Nat.lt_trichotomy j' j with hlt | heq | hgt
         · exact(hne j' j (by simpa using i1) (by simpa using i2) hlt (by simp only[List.getElem_map,q1,q2,g3,h3])).elim
         · exact heq
         · exact(hne j j' (by simpa using i2) (by simpa using i1) hgt (by simp only[List.getElem_map,q1,q2,g3,h3])).elim
        subst this
        rw[g2] at h2
        exact Option.some.inj h2
       rw[this,hval] at g1
       exact hfin _ _ g1
 · refine MapIs.same (W:=setBlock W mb (.map es' clock')) ⟨n+1,_,how2,by omega,fun x y l' hl'=>?_⟩ (by rw[heap_setBlock_same hb1,heap_setBlock_same hbl])
   unfold KBA
   split
   · rename_i e
     obtain⟨rfl,rfl⟩:=e
     rw[hl] at hl'
     cases hl'
     exact Maps.atKey_put_same (k:=.string l) (hown0.isMap) (show WideAt.IsKeyLit (.string l) from trivial) _ _
   · rename_i e
     have hne:l'≠.string l:=fun e1=>by
      subst e1
      exact e (VAq (bkLaw.inj hl' hl))
     rw[Maps.atKey_put_other hne]
     exact hf x y l' hl'
end
end Go.Proofs.YthgphmfipnjllaaGreat
