/- Lemmas of the proof, with their conditions. -/
import Derived.Test.YthgphmfipnjllaaGreatV04
import Derived.Lib.AppendZeros
namespace Go.Proofs.YthgphmfipnjllaaGreat
set_option linter.unusedSimpArgs false
set_option linter.unusedVariables false
set_option maxHeartbeats 4000000
set_option maxRecDepth 20000
section
open Go.RowKit
theorem elemPart:ElemN Tryz.prog 290 293 (.agg #[.int .i64 0,.slice none 0 0]) 2 32:=ElemN.of Tryz.underlying290 (by kernel_rfl) rfl (by omega)
structure PtsOk (w:World) (q:Value×Nat×List Value):Prop where
 at_:∃ a c,q.1=.slice (some a) q.2.1 c∧q.2.1≤c∧Rd w (some a) (q.2.1*2) q.2.2
 one:∀ u∈q.2.2,u.oneCell'=true
 few:q.2.1≤1000
structure Pts (w:World) (A:Option Addr) (n:Nat) (ls:List (Value×Nat×List Value)):Prop where
 row:Rd w A n (ls.map (·.1))
 ok:∀ q∈ls,PtsOk w q
theorem Pts.len {w:World} {A:Option Addr} {n:Nat} {ls:List (Value×Nat×List Value)} (h:Pts w A n ls):ls.length=n:=by simpa using h.row.1
theorem Pts.keep {w w':World} {A:Option Addr} {n:Nat} {ls:List (Value×Nat×List Value)} (h:Pts w A n ls) (hk:Keep [] w w'):Pts w' A n ls:=
 ⟨h.row.keep hk,fun q hq=>by obtain⟨⟨a,c,h1,h2,h3⟩,h4,h5⟩:=h.ok q hq;exact⟨⟨a,c,h1,h2,h3.keep hk⟩,h4,h5⟩⟩
def Qp (ls:List (Value×Nat×List Value)):Nat:=(ls.map (·.2.1)).sum
def ZAs (ls:List (Value×Nat×List Value)):List Value:=ls.flatMap (·.2.2)
theorem QAZ (ls:List (Value×Nat×List Value)) (q:Value×Nat×List Value):Qp (ls++[q])=Qp ls+q.2.1:=by simp[Qp]
theorem VAh (ls:List (Value×Nat×List Value)) (k:Nat):Qp (ls.take k)≤Qp ls:=by
 conv=>rhs;rw[← List.take_append_drop k ls]
 unfold Qp
 rw[List.map_append,List.sum_append]
 omega
theorem XAZ (n:Nat) (h0:1≤n) (hn:n≤1000000) (w:World) :
 Calls Tryz.prog 320 #[.slice none 0 0,.int .i64 (n:Nat)] w fun e w'=>∃ v,e=.returned v∧w'.ownsRow w.heap.size 293 2 v 0 []∧Keep [] w w':=by
 have hI:(0:Int)<(n:Nat):=by omega
 obtain⟨i,hi,hz,hs,hb⟩:=elemPart.info
 have hrun:=Lib.run_append_nil_zeros (P:=Tryz.prog) w 290 3 290 293 i (.agg #[.int .i64 0,.slice none 0 0]) .i64 .i64 Tryz.underlying290 Tryz.underlying3 hi hz n (by omega) (by omega) (by omega) (by rw[hb];omega)
 have hcap:=grownCap_ge w n 0 293
 have hcap2:=grownCap_le_maxLen w n 0 293 (by simp[maxLen];omega)
 obtain⟨cp,hcp⟩:∃ cp,cp=grownCap w n 0 293:=⟨_,rfl⟩
 rw[← hcp] at hrun hcap hcap2
 have hsz:(Builtin.zeroCells (Value.agg #[.int .i64 0,.slice none 0 0]).cells n++Builtin.zeroCells (Value.agg #[.int .i64 0,.slice none 0 0]).cells (cp-n)).size=cp*2:=by
  rw[Array.size_append,size_zeroCells,size_zeroCells,show (Value.agg #[.int .i64 0,.slice none 0 0]).cells.size=2 from rfl];omega
 generalize Builtin.zeroCells (Value.agg #[.int .i64 0,.slice none 0 0]).cells n++Builtin.zeroCells (Value.agg #[.int .i64 0,.slice none 0 0]).cells (cp-n)=cs at *
 clear hcp
 go_enter Tryz.func320,Tryz.ntmps320
 go_wp2_with (at_builtin;refine Lib.wpList_append_run _ rfl _ _ _ _ rfl _ _ rfl rfl _ _ hrun ?_)
 go_ret
 refine⟨_,rfl,⟨by simp,.inr ⟨w.heap.size,cp,cs,rfl,Nat.le_refl _,?_,Nat.zero_le _,hcap2,by omega,by simp⟩⟩,((Keep.refl _ _).drew.alloc _)⟩
 exact(Blk.new w 293 cs).drew
theorem JAN (A:Option Addr) (n c:Nat) (ls:List (Value×Nat×List Value)) (w:World) (ha:Pts w A n ls) (h0:1≤Qp ls) (hT:Qp ls≤100000) (hn:n≤1000000) :
 Calls Tryz.prog 228 #[.slice A n c] w fun e w'=>∃ u,e=.returned u∧w'.ownsRow w.heap.size 293 2 u (Qp ls) (ZAs ls)∧Keep [] w w':=by
 have hlen:=ha.len
 have HL:=ZB hlen
 have htake:∀ k,Qp (ls.take k)≤Qp ls:=fun k=>VAh ls k
 have hsnoc:∀ k (hk:k<ls.length),ZAs (ls.take (k+1))=ZAs (ls.take k)++ls[k].2.2:=fun k hk=>by
  rw[List.take_succ_eq_append_getElem hk];unfold ZAs;rw[List.flatMap_append];simp only[List.flatMap_cons,List.flatMap_nil,List.append_nil]
 have hsnocN:∀ k (hk:k<ls.length),Qp (ls.take (k+1))=Qp (ls.take k)+ls[k].2.1:=fun k hk=>by
  rw[List.take_succ_eq_append_getElem hk];exact QAZ _ _
 obtain⟨T,hTe⟩:∃ T,T=Qp ls:=⟨_,rfl⟩
 have hG:=fun W=>XAZ T (by omega) (by omega) W
 rw[← hTe] at hT h0 htake
 have HT:=ZB hTe
 have HS:=ZB hsnoc
 have HTK:=ZB htake
 have HSN:=ZB hsnocN
 clear hlen hTe hsnoc htake hsnocN
 go_enter Tryz.func228,Tryz.ntmps228
 go_wp2_with fail
 obtain⟨sf,hsf⟩:∃ sf:Nat→Nat,∀ k,sf k=Qp (ls.take k):=⟨_,fun _=>rfl⟩
 have hs0:sf 0=0:=by rw[hsf];rfl
 have hsle:∀ k,sf k≤T:=fun k=>by rw[hsf];exact QA HTK k
 have hsT:sf n=T:=by rw[hsf,List.take_of_length_le (Nat.le_of_eq (QA HL)),← QA HT]
 have hss:∀ k (hk:k<ls.length),sf (k+1)=sf k+ls[k].2.1:=fun k hk=>by rw[hsf,hsf,QA HSN k hk]
 have HSS:=ZB hss
 have HST:=ZB hsT
 clear hss hsf hsT
 go_loopw [3,5,11] (fun z _ i wr=>∃ k:Nat,k≤n∧i=.int .i64 k∧z=.int .i64 (sf k:Nat)∧Keep [] w wr) (fun _ _ i _=>n-(intOf i).toNat)
 case atStart=>exact⟨0,Nat.zero_le _,rfl,by rw[hs0];rfl,Keep.refl _ _⟩
 case round=>
  obtain⟨k,hk,rfl,rfl,hkr⟩:=hrel
  have hsum:=hsle k
  by_cases hlt:k<n
  · have hkl:k<ls.length:=by rw[QA HL];exact hlt
    have hltI:((k:Nat):Int)<(n:Nat):=by omega
    obtain⟨b,o,u,rfl,hu,hb,hc⟩:=(ha.keep hkr).row.at_ hlt
    rw[List.getElem?_map,List.getElem?_eq_getElem hkl,Option.map_some,Option.some.injEq] at hu
    have hr:=(ha.keep hkr).ok ls[k] (List.getElem_mem _)
    have hsum2:=hsle (k+1)
    have hsn:=QA HSS k hkl
    rw[hsn] at hsum2
    have HSK:=ZB hsn
    clear hsn
    generalize ls[k]=p at *
    obtain⟨pv,pn,px⟩:=p
    obtain⟨⟨pa,pc,hpv,h1,h3⟩,h4,h5⟩:=hr
    simp only at hpv hu h1 h3 h4 h5 hsum2 HSK
    subst hu
    subst hpv
    generalize hq:sf k=q at *
    generalize hq2:sf (k+1)=q2 at *
    clear hq hs0 hsle
    go_wp2_with fail
    go_roundw
    case rel=>exact⟨k+1,by omega,by go_num,by rw[hq2,QA HSK];go_num,hkr⟩
    case measure=>simp[intOf];omega
  · obtain rfl:n=k:=by omega
    rw[QA HST]
    go_wp2_with (refine(hG _).mono ?_;rintro e w1 ⟨v,rfl,hv0,hk1⟩)
    have hv:=VC hv0 hkr.size
    clear hs0 hsle hsum hv0
    obtain⟨i,hi,hz,hs,hb⟩:=elemPart.info
    go_loopw [6,8,27] (fun v _ i wr=>∃ (k q:Nat) (L:List Value),k≤n∧i=.int .i64 k∧Hid (L=ZAs (ls.take k))∧Hid (q=Qp (ls.take k))∧q≤100000∧wr.ownsRow w.heap.size 293 2 v q L∧Keep [] w wr) (fun _ _ i _=>n-(intOf i).toNat)
    case atStart=>exact⟨0,0,[],Nat.zero_le _,rfl,by show _=_;rfl,by show _=_;rfl,by omega,hv,hkr.trans0 hk1⟩
    case round=>
     clear hv hk1 hkr
     obtain⟨k,q,L,hk,rfl,hL,hQ,hq,hv,hkr⟩:=hrel
     by_cases hlt:k<n
     · have hkl:k<ls.length:=by rw[QA HL];exact hlt
       have hltI:((k:Nat):Int)<(n:Nat):=by omega
       have HH:=ZB ((QA HS) k hkl)
       have HN:=ZB ((QA HSN) k hkl)
       have hsum2:=QA HTK (k+1)
       rw[QA HN,← QA hQ] at hsum2
       obtain⟨b,o,u,rfl,hu,hb,hc⟩:=(ha.keep hkr).row.at_ hlt
       rw[List.getElem?_map,List.getElem?_eq_getElem hkl,Option.map_some,Option.some.injEq] at hu
       have hr:=(ha.keep hkr).ok ls[k] (List.getElem_mem _)
       generalize ls[k]=p at *
       obtain⟨pv,pn,px⟩:=p
       obtain⟨⟨pa,pc,hpv,h1,h3⟩,h4,h5⟩:=hr
       simp only at hpv hu h1 h3 h4 h5 hsum2 HH HN
       subst hu
       subst hpv
       have hsz:=hkr.size
       go_wp2_with (at_builtin;refine elemPart.wp_app rfl (.tmp 31) (.tmp 32) rfl w.heap.size _ q L rfl hv pa pn pc _ rfl h3 h4 (by omega) (by omega) (by omega) ?_;rintro v' w2 hv2 hk2 _ _)
       go_roundw
       case rel=>
        refine⟨k+1,q+pn,L++px,by omega,by go_num,?_,?_,by omega,hv2,hkr.trans hk2 fun x hx=>.inr (own_mem hv hx).1⟩
        · show _=_
          rw[QA HH,← QA hL]
        · show _=_
          rw[QA HN,← QA hQ]
       case measure=>simp[intOf];omega
     · obtain rfl:n=k:=by omega
       have e:L=ZAs ls:=by rw[QA hL,List.take_of_length_le (Nat.le_of_eq (QA HL))]
       have e2:q=Qp ls:=by rw[QA hQ,List.take_of_length_le (Nat.le_of_eq (QA HL))]
       subst e e2
       have HV:=ZB hv
       clear hv hL hQ hq
       go_wp2
       go_ret
       exact⟨_,rfl,QA HV,hkr⟩
end
end Go.Proofs.YthgphmfipnjllaaGreat
