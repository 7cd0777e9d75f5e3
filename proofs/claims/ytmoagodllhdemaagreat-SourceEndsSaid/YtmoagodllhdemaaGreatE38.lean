/-
  A part of the proof: lemmas, and contracts of functions; their conditions stand in them.
-/
import Derived.Test.YtmoagodllhdemaaGreatE35
import Derived.Test.YtmoagodllhdemaaGreatE10
import Derived.Test.YtmoagodllhdemaaGreatE05
import Derived.Test.YtmoagodllhdemaaGreatE12
import Derived.Test.YtmoagodllhdemaaGreatE34
import Derived.Test.YtmoagodllhdemaaGreatE37
namespace Go.Proofs.YtmoagodllhdemaaGreat
set_option linter.unusedSimpArgs false
set_option linter.unusedVariables false
set_option maxHeartbeats 8000000
set_option maxRecDepth 40000
section
open Go.RowKit Go.Shelf
theorem elem8M:ElemN Tryz.prog 40 5 (.int .u8 0) 1 1:=ElemN.of Tryz.underlying40 (by kernel_rfl) rfl (by omega)
def JAi (w:World) (base i:Nat) (F:List Nat) (I:PIdl) (e:Ending) (w':World):Prop:=e = .returned (.bool true)∧∃ F',VAK w' base i F' I∧Keep F w w'∧∀ x∈F',x∈F∨w.heap.size≤x
theorem JAG (w:World) (base i:Nat) (F:List Nat) (I:PIdl) (h:VAK w base i F I) (hB:1≤I.base.length∧I.base.length≤64) (hlen:I.base.length=I.over.length) (hep:I.ep≤1000000) (hsq:I.seq≤1000000) (k b c e n m:Nat) (A:Option Addr) (xs:List UInt8) (ha:Rd w A n (bys xs)) (hm:n≤m) (hf:Qt I k b c e n) :
 Calls Tryz.prog 31 #[.pointer (some ⟨i,0,none⟩),.agg #[.int .i64 k,.int .i64 b,.int .i64 c,.int .i64 e,.slice A n m]] w (JAi w base i F (I.step ⟨k,b,c,e,xs⟩)):=by
 obtain ⟨bv,ov,bs,os,h⟩:=h
 have hbl:=h.blen
 have hol:=h.olen
 obtain ⟨gb,cb,rfl,_,_⟩:=ZE h.brow (by omega)
 obtain ⟨go,co,rfl,_,_⟩:=ZE h.orow (by omega)
 have hkA:Keep [] w (w.alloc (.cells #[.int .i64 k,.int .i64 b,.int .i64 c,.int .i64 e,.slice A n m] 46)):=(Keep.refl _ _).alloc _
 have hbO:=Blk.new w 46 #[.int .i64 k,.int .i64 b,.int .i64 c,.int .i64 e,.slice A n m]
 have hMay:=fun W (hk:Keep [] w W)=>Yr W base i _ _ bs os F I (h.keep0 hk) hB hep k b c e n m A hf
 have hxl:xs.length=n:=by simpa using ha.1
 have hib:i≠gb:=fun e=>h.iB (by simp [Value.ownBlock,e])
 have hio:i≠go:=fun e=>h.iO (by simp [Value.ownBlock,e])
 have hbo:gb≠go:=fun e=>h.ne (by simp [Value.ownBlock,e])
 have hge:=fun x hx=>(h.lt x hx)
 have hbw:base≤w.heap.size:=by have:=h.base;have:=h.blk.lt;omega
 have hiF:=h.inI
 have hgbF:gb∈F:=h.inB gb (by simp [Value.ownBlock])
 have hgoF:go∈F:=h.inO go (by simp [Value.ownBlock])
 obtain ⟨o0,o1,o2,o3,o4⟩:=QC hbO
 have HXL:=JC hxl
 have HBL:=JC hbl
 have HOL:=JC hol
 clear hxl hbl hol
 rcases hf with ⟨rfl,h1,rfl,rfl,rfl⟩ | ⟨rfl,h1,h2,rfl,rfl⟩ | ⟨rfl,rfl,rfl,rfl,rfl⟩
 · go_enter Tryz.func31,Tryz.ntmps31
   go_wp2_with (
    (refine (hMay _ hkA).mono ?_)
    clear hMay o0 o1 o2 o3 o4
    rintro e w1 ⟨rfl,hk1⟩
    have hbO1:=hbO.keep0 hk1
    have hkw:=hkA.trans0 hk1
    have h1':=h.keep0 hkw
    obtain ⟨c0,c1,c2,c3,c4⟩:=h1'.cells
    obtain ⟨o0,o1,o2,o3,o4⟩:=QC hbO1)
   have hPa:=Yn A 64 m xs 0 64 w1.drew ((ha.keep hkw).drew) (by omega) (by omega) (by omega) hm (by omega)
   refine KA (fun w'=>w'.cell? ⟨i,1,none⟩=some (.slice (some ⟨go,0,none⟩) os.length co)∧w'.cell? ⟨w.heap.size,1,none⟩=some (.int .i64 b)∧w'.cell? ⟨w.heap.size,4,none⟩=some (.slice A 64 m)) 9 [(0,false),(1,false),(2,false),(3,false),(4,false),(5,false),(6,false),(7,false),(8,true)]
    (by kernel_rfl) (by kernel_rfl) (fun _ _ d _ _ h=>by cases d <;> exact h) ⟨c1,o1,o4⟩ ?_
   simp only [PI]
   iterate 8 (refine ZB ?_ (by rfl) ?_ ?_;rotate_left;(focus (rintro W ⟨hW1,hW2,hW3⟩;go_simp;try with_reducible rfl));simp only [Act.put,PU])
   refine KB (by rfl) (fun K hK=>?_)
   go_wp2_with (refine hPa.mono ?_;clear hPa;rintro e w2 ⟨u,rfl,hu,hk2⟩)
   have hkw2:=hkw.drew.trans0 hk2
   obtain ⟨d1,d2,d3,d4,d5⟩:=(h.keep0 hkw2).cells
   obtain ⟨p0,p1,p2,p3,p4⟩:=QC (hbO1.keep0 ((Keep.refl [] w1).drew.trans0 hk2))
   have hbo1:b<os.length:=by rw [JA HOL];omega
   obtain ⟨UA,uc,rfl,_⟩:=JB hu
   have hce:w2.cell? ⟨go,b,none⟩=some (os[b]).1:=QI (h.keep0 hkw2).orow (by rw [List.getElem?_map,List.getElem?_eq_getElem hbo1];rfl)
   refine hK _ _ (⟨d2,p1,p4⟩) ?_
   clear hK K
   try simp only [Act.put,PU]
   have hgw1:go≠w.heap.size:=fun e=>by have:=hge go hgoF;omega
   have hgw2:w.heap.size≠go:=fun e=>hgw1 e.symm
   have hoi:go≠i:=fun e=>hio e.symm
   have fz1:=ZG (h.keep0 hkw2).orow b
   have fz2:=(h.keep0 hkw2).blk.frozen 3
   have hwq:IntKind.i64.wrap (((I.seq:Nat):Int)+1)=((I.seq:Nat):Int)+1:=by rw [IntKind.wrap_i64];omega
   refine ZC ?_
   go_wp2_with fail
   go_ret
   have hov:ORow w2 base (.slice UA 64 uc) (some xs) := .inr ⟨xs,rfl,by simpa using JA HXL,by
    have:=YC hu (Nat.le_trans hbw (hkw.drew).size)
    simpa [List.take_of_length_le (Nat.le_of_eq (JA HXL))] using this⟩
   obtain ⟨F2,h2,hk3,hF2⟩:=h.setO hkw2 (k:=b) hov
   have hb3:=h2.blk.set 3 (.int .i64 ((I.seq+1:Nat):Int))
   have hk4:Keep [i] (w2.setCell ⟨go,b,none⟩ (.slice UA 64 uc)) ((w2.setCell ⟨go,b,none⟩ (.slice UA 64 uc)).setCell ⟨i,3,none⟩ (.int .i64 ((I.seq+1:Nat):Int))):=(Keep.refl [i] _).setCell (p:=⟨i,3,none⟩) (.inl (by simp)) _
   have h3:=h2.setN I.ep (I.seq+1) I.done (by simpa using hb3) hk4
   refine ⟨rfl,F2,⟨_,_,_,_,by simpa [PIdl.step] using h3⟩,((((Keep.refl F w).trans0 hkw2).trans hk3 (fun y hy => .inl (by simp at hy;subst hy;exact hgoF))).trans hk4 (fun y hy => .inl (by simp at hy;subst hy;exact hiF))),fun x hx=>?_⟩
   rcases hF2 x hx with hx | hx
   · exact .inl hx
   · exact .inr (Nat.le_trans (hkw.drew).size (Kt hu x hx))
 · have hgw1:go≠w.heap.size:=fun e=>by have:=hge go hgoF;omega
   have hgw2:w.heap.size≠go:=fun e=>hgw1 e.symm
   have hoi:go≠i:=fun e=>hio e.symm
   have hiw:i≠w.heap.size:=fun e=>by have:=hge i hiF;omega
   have hwi:w.heap.size≠i:=fun e=>hiw e.symm
   have hc64:c≤64:=by omega
   have hwq:IntKind.i64.wrap (((I.seq:Nat):Int)+1)=((I.seq:Nat):Int)+1:=by rw [IntKind.wrap_i64];omega
   go_enter Tryz.func31,Tryz.ntmps31
   go_wp2_with (
    (refine (hMay _ hkA).mono ?_)
    clear hMay o0 o1 o2 o3 o4
    rintro e w1 ⟨rfl,hk1⟩
    have hbO1:=hbO.keep0 hk1
    have hkw:=hkA.trans0 hk1
    obtain ⟨o0,o1,o2,o3,o4⟩:=QC hbO1)
   go_loopw [5] (fun iv wr=>∃ (q:Nat) (os':List (Value×Option (List UInt8))) (F':List Nat),q≤c∧iv = .int .i64 (q:Nat)∧IdlIs wr base i (.slice (some ⟨gb,0,none⟩) bs.length cb) (.slice (some ⟨go,0,none⟩) os.length co) bs os' F' { I with over:=YQ I.over b q (some zeros64) }∧Keep F w wr∧Blk wr w.heap.size 46 #[.int .i64 2,.int .i64 b,.int .i64 c,.int .i64 0,.slice A 0 m]∧(∀ x∈F',x∈F∨w.heap.size≤x)) (fun iv _=>c-(intOf iv).toNat)
   case atStart=>exact ⟨0,os,F,Nat.zero_le _,rfl,by rw [YAd];exact h.keep0 hkw,(Keep.refl F w).trans0 hkw,hbO1,fun x hx => .inl hx⟩
   case round=>
    clear o0 o1 o2 o3 o4 hbO1 hkw
    obtain ⟨q,os',F',hq,rfl,hI,hkr,hbr,hF⟩:=hrel
    obtain ⟨c0,c1,c2,c3,c4⟩:=hI.cells
    obtain ⟨o0,o1,o2,o3,o4⟩:=QC hbr
    by_cases hlt:q<c
    · have hbq:b+q<os'.length:=by
       have:=hI.olen
       simp only [VQ] at this
       have:=JA HOL
       omega
      go_wp2_with fail
      refine KA (fun w'=>w'.cell? ⟨i,1,none⟩=some (.slice (some ⟨go,0,none⟩) os.length co)∧w'.cell? ⟨w.heap.size,1,none⟩=some (.int .i64 b)) 9 [(0,false),(1,false),(2,false),(3,false),(4,false),(5,false),(6,false),(7,false),(8,true)]
       (by kernel_rfl) (by kernel_rfl) (fun _ _ d _ _ h=>by cases d <;> exact h) ⟨c1,o1⟩ ?_
      simp only [PI]
      iterate 8 (refine ZB ?_ (by rfl) ?_ ?_;rotate_left;(focus (rintro W ⟨hW1,hW2⟩;go_simp;try with_reducible rfl));simp only [Act.put,PU])
      refine KB (by rfl) (fun K hK=>?_)
      refine elem8M.wp1_make _ _ rfl .i64 .i64 64 rfl rfl (by omega) (by omega) ?_
      intro w2 g2 hg2 hs2 hb2 hk2
      have hkn:Keep [] wr w2:=(Keep.refl [] wr).drew.trans0 hk2
      obtain ⟨d1,d2,d3,d4,d5⟩:=(hI.keep0 hkn).cells
      obtain ⟨p0,p1,p2,p3,p4⟩:=QC (hbr.keep0 hkn)
      have hol:os.length=os'.length:=by obtain ⟨_,_,e,_⟩:=JB hI.orow;injection e
      have hrow:=(hI.keep0 hkn).orow
      rw [hol] at hrow
      have hce:w2.cell? ⟨go,b+q,none⟩=some (os'[b+q]).1:=QI hrow (by rw [List.getElem?_map,List.getElem?_eq_getElem hbq];rfl)
      have fz1:=ZG hrow (b+q)
      clear hrow
      have hbqo:b+q<os.length:=by omega
      have hwb:IntKind.i64.wrap (((b:Nat):Int)+(q:Nat))=((b:Nat):Int)+(q:Nat):=by rw [IntKind.wrap_i64];omega
      have hwq2:IntKind.i64.wrap (((q:Nat):Int)+1)=((q:Nat):Int)+1:=by rw [IntKind.wrap_i64];omega
      have hnn:(((b:Nat):Int)+(q:Nat)).toNat=b+q:=by omega
      have hz:=VI (e:=5) (s:=1) (z := .int .u8 0) (n:=64) (m:=64) (xs:=bys zeros64) (base:=base) hb2 (by omega) (by rw [hg2];exact Nat.le_trans hbw (by simpa using hkr.size)) (by omega) (by simp [bys,by8,zeros64]) rfl
      refine hK _ _ (⟨d2,p1⟩) ?_
      clear hK K
      try simp only [Act.put,PU]
      refine ZC ?_
      go_wp2_with fail
      go_roundw
      case rel=>
       have hov:ORow w2 base (.slice (some ⟨wr.heap.size,0,none⟩) 64 64) (some zeros64) := .inr ⟨zeros64,rfl,by simp [zeros64],by simpa [hg2] using hz⟩
       obtain ⟨F2,h2,hk3,hF2⟩:=hI.setO hkn (k:=b+q) hov
       refine ⟨q+1,os'.set (b+q) (.slice (some ⟨wr.heap.size,0,none⟩) 64 64,some zeros64),F2,by omega,by go_num,?_,(hkr.trans0 hkn).trans hk3 (fun y hy => .inl (by simp at hy;subst hy;exact hgoF)),(hbr.keep0 hkn).keep hk3 (by simp;omega),fun x hx=>?_⟩
       · rw [JAa _ _ _ _ (by have:=JA HOL;omega)]
         exact h2
       · rcases hF2 x hx with hx | hx
         · exact hF x hx
         · simp [Value.ownBlock] at hx
           subst hx
           exact .inr hkr.size
      case measure=>simp [intOf];omega
    · obtain rfl:q=c:=by omega
      have fz2:=hI.blk.frozen 3
      go_wp2_with fail
      go_ret
      have hb3:=hI.blk.set 3 (.int .i64 ((I.seq+1:Nat):Int))
      have hk4:Keep [i] wr (wr.setCell ⟨i,3,none⟩ (.int .i64 ((I.seq+1:Nat):Int))):=(Keep.refl [i] _).setCell (p:=⟨i,3,none⟩) (.inl (by simp)) _
      have h3:=hI.setN I.ep (I.seq+1) I.done (by simpa using hb3) hk4
      exact ⟨rfl,F',⟨_,_,_,_,by simpa [PIdl.step] using h3⟩,hkr.trans hk4 (fun y hy => .inl (by simp at hy;subst hy;exact hiF)),hF⟩
 · have hgw1:go≠w.heap.size:=fun e=>by have:=hge go hgoF;omega
   have hgw2:w.heap.size≠go:=fun e=>hgw1 e.symm
   have hgv1:gb≠w.heap.size:=fun e=>by have:=hge gb hgbF;omega
   have hgv2:w.heap.size≠gb:=fun e=>hgv1 e.symm
   have hoi:go≠i:=fun e=>hio e.symm
   have hbi:gb≠i:=fun e=>hib e.symm
   have hob:go≠gb:=fun e=>hbo e.symm
   have hiw:i≠w.heap.size:=fun e=>by have:=hge i hiF;omega
   have hwi:w.heap.size≠i:=fun e=>hiw e.symm
   have hwq:IntKind.i64.wrap (((I.seq:Nat):Int)+1)=((I.seq:Nat):Int)+1:=by rw [IntKind.wrap_i64];omega
   obtain ⟨L,hL⟩:∃ L,L=bs.length:=⟨_,rfl⟩
   have hLB:L=I.base.length:=by rw [hL];exact JA HBL
   have hLO:os.length=L:=by rw [hLB,hlen];exact JA HOL
   have HL:=JC hL
   have HLB:=JC hLB
   rw [hLO,← hL] at h
   clear hL hLO hLB
   have hL64:L≤64:=by have:=JA HLB;omega
   go_enter Tryz.func31,Tryz.ntmps31
   go_wp2_with (
    (refine (hMay _ hkA).mono ?_)
    clear hMay o0 o1 o2 o3 o4
    rintro e w1 ⟨rfl,hk1⟩
    have hbO1:=hbO.keep0 hk1
    have hkw:=hkA.trans0 hk1
    obtain ⟨o0,o1,o2,o3,o4⟩:=QC hbO1)
   go_loopw [6] (fun iv wr=>∃ (q:Nat) (bs':List (Value×List UInt8)) (os':List (Value×Option (List UInt8))) (F':List Nat),q≤L∧iv = .int .i64 (q:Nat)∧IdlIs wr base i (.slice (some ⟨gb,0,none⟩) L cb) (.slice (some ⟨go,0,none⟩) L co) bs' os' F' { I with base:=Xd I.base I.over q,over:=ZR I.over q }∧Keep F w wr∧Blk wr w.heap.size 46 #[.int .i64 3,.int .i64 0,.int .i64 0,.int .i64 ((I.ep+1:Nat):Int),.slice A 0 m]∧(∀ x∈F',x∈F∨w.heap.size≤x)) (fun iv _=>L-(intOf iv).toNat)
   case atStart=>exact ⟨0,bs,os,F,Nat.zero_le _,rfl,by simpa [Xd,ZR] using h.keep0 hkw,(Keep.refl F w).trans0 hkw,hbO1,fun x hx => .inl hx⟩
   case round=>
    clear o0 o1 o2 o3 o4 hbO1 hkw
    obtain ⟨q,bs',os',F',hq,rfl,hI,hkr,hbr,hF⟩:=hrel
    obtain ⟨c0,c1,c2,c3,c4⟩:=hI.cells
    obtain ⟨o0,o1,o2,o3,o4⟩:=QC hbr
    by_cases hlt:q<L
    · have hol:L=os'.length:=by obtain ⟨_,_,e,_⟩:=JB hI.orow;injection e
      have hbl:L=bs'.length:=by obtain ⟨_,_,e,_⟩:=JB hI.brow;injection e
      have hq1:q<os'.length:=by omega
      have hbo2:I.base.length=I.over.length:=hlen
      have hqo:q<I.over.length:=by have:=JA HLB;omega
      have hget:(ZR I.over q)[q]? = some os'[q].2:=hI.oget hq1
      have hov:=hI.odat _ (List.getElem_mem hq1)
      have hover:I.over[q]? = some os'[q].2:=by rw [← hget,JR];simp
      have hrow:=hI.orow
      rw [hol] at hrow
      have hco:wr.cell? ⟨go,q,none⟩=some os'[q].1:=QI hrow (by rw [List.getElem?_map,List.getElem?_eq_getElem hq1];rfl)
      clear hrow
      rcases hov with ⟨hn,hv⟩ | ⟨ys,hs,hl,hown⟩
      · rw [hv] at hco
        rw [hn] at hover
        obtain ⟨e1,e2⟩:=XAb hbo2 hqo hover
        have E1:=JC e1
        have E2:=JC e2
        clear e1 e2 hget hn hv hover hol hbl
        go_wp2_with fail
        go_roundw
        case rel=>exact ⟨q+1,bs',os',F',by omega,by go_num,by rw [JA E1,JA E2];exact hI,hkr,hbr,hF⟩
        case measure=>simp [intOf];omega
      · obtain ⟨g,cg,hv,_,_⟩:=ZE hown (by omega)
        have hgF:g∈F':=hI.inOs (List.getElem_mem hq1) g (by rw [hv];simp [Value.ownBlock])
        rw [hv] at hco hown
        rw [hs] at hover
        obtain ⟨e1,e2⟩:=JAc hbo2 hqo hover
        have hrowb:=hI.brow
        rw [hbl] at hrowb
        have hqb:q<bs'.length:=by omega
        obtain ⟨bq,hcb⟩:∃ u,wr.cell? ⟨gb,q,none⟩=some u:=⟨_,QI hrowb (by rw [List.getElem?_map,List.getElem?_eq_getElem hqb];rfl)⟩
        have fzb:=ZG hrowb q
        have fzo:=ZG (by have:=hI.orow;rwa [hol] at this) q
        have E1:=JC e1
        have E2:=JC e2
        clear e1 e2 hget hs hv hover hol hbl hrowb
        go_wp2_with fail
        refine KA (fun w'=>w'.cell? ⟨i,0,none⟩=some (.slice (some ⟨gb,0,none⟩) L cb)∧w'.cell? ⟨i,1,none⟩=some (.slice (some ⟨go,0,none⟩) L co)∧w'.cell? ⟨go,q,none⟩=some (.slice (some ⟨g,0,none⟩) 64 cg)) 12 [(0,false),(1,false),(2,false),(3,false),(4,false),(5,false),(6,false),(7,false),(8,false),(9,false),(10,false),(11,false)]
         (by kernel_rfl) (by kernel_rfl) (fun _ _ d _ _ h=>by cases d <;> exact h) ⟨c0,c1,hco⟩ ?_
        simp only [PI]
        iterate 12 (refine ZB ?_ (by rfl) ?_ ?_;rotate_left;(focus (rintro W ⟨hW1,hW2,hW3⟩;go_simp;try with_reducible rfl));simp only [Act.put,PU])
        refine ZC ?_
        go_wp2_with fail
        go_roundw
        case rel=>
         obtain ⟨F1,hA,hkA',hFA⟩:=hI.setB (Keep.refl [] wr) (k:=q) (.inr ⟨ys,rfl,hl,hown⟩)
         obtain ⟨F2,hB',hkB',hFB⟩:=hA.setO (Keep.refl [] _) (k:=q) (v := .slice none 0 0) (o:=none) (.inl ⟨rfl,rfl⟩)
         refine ⟨q+1,bs'.set q (.slice (some ⟨g,0,none⟩) 64 cg,ys),os'.set q (.slice none 0 0,none),F2,by omega,by go_num,?_,?_,?_,fun x hx=>?_⟩
         · rw [JA E1,JA E2]
           exact hB'.keep0 (Keep.refl [] _).drew
         · exact ((hkr.trans hkA' (fun y hy => .inl (by simp at hy;subst hy;exact hgbF))).trans hkB' (fun y hy => .inl (by simp at hy;subst hy;exact hgoF))).drew
         · exact ((hbr.keep hkA' (by simp [hgv2])).keep hkB' (by simp [hgw2])).keep0 (Keep.refl [] _).drew
         · rcases hFB x hx with hx | hx
           · rcases hFA x hx with hx | hx
             · exact hF x hx
             · simp [Value.ownBlock] at hx
               subst hx
               exact hF _ hgF
           · simp [Value.ownBlock] at hx
        case measure=>simp [intOf];omega
    · obtain rfl:q=L:=by omega
      have fz2:=hI.blk.frozen 2
      have fz3:=hI.blk.frozen 3
      have fz4:=hI.blk.frozen 4
      go_wp2_with fail
      go_ret
      have hb3:=((hI.blk.set 2 (.int .i64 ((I.ep+1:Nat):Int))).set 3 (.int .i64 ((I.seq+1:Nat):Int))).set 4 (.int .i64 ((I.seq+1:Nat):Int))
      have hk4:=(((Keep.refl [i] wr).setCell (p:=⟨i,2,none⟩) (.inl (by simp)) (.int .i64 ((I.ep+1:Nat):Int))).setCell (p:=⟨i,3,none⟩) (.inl (by simp)) (.int .i64 ((I.seq+1:Nat):Int))).setCell (p:=⟨i,4,none⟩) (.inl (by simp)) (.int .i64 ((I.seq+1:Nat):Int))
      obtain ⟨e1,e2⟩:=JAo hlen
      have h3:=hI.setN (I.ep+1) (I.seq+1) (I.seq+1) (by simpa using hb3) hk4
      have eq:q=I.over.length:=by have:=JA HLB;omega
      rw [eq] at h3
      simp only [e1,e2] at h3
      exact ⟨rfl,F',⟨_,_,_,_,by simpa [PIdl.step] using h3⟩,hkr.trans hk4 (fun y hy => .inl (by simp at hy;subst hy;exact hiF)),hF⟩
end
section
open Go.RowKit Go.Shelf
theorem elemRowsM:ElemN Tryz.prog 59 40 (.slice none 0 0) 1 24:=ElemN.of Tryz.underlying59 (by kernel_rfl) rfl (by omega)
theorem QU {w:World} {g:Nat} {t:TypeId} {x0 x1 x2 x3 x4:Value} (h:Blk w g t #[x0,x1,x2,x3,x4]):w.cell? ⟨g,0,none⟩=some x0∧w.cell? ⟨g,1,none⟩=some x1∧w.cell? ⟨g,2,none⟩=some x2∧w.cell? ⟨g,3,none⟩=some x3∧w.cell? ⟨g,4,none⟩=some x4:=
 ⟨by simpa using h.cell 0,by simpa using h.cell 1,by simpa using h.cell 2,by simpa using h.cell 3,by simpa using h.cell 4⟩
theorem Zx (n:Nat) (h0:1≤n) (hn:n≤64) (w:World) :
 Calls Tryz.prog 28 #[.int .i64 (n:Nat)] w fun e w'=>∃ i F,e = .returned (.pointer (some ⟨i,0,none⟩))∧VAK w' w.heap.size i F (PIdl.new n)∧Keep [] w w':=by
 have hW:=fun W=>YD (n:Nat) 1 64 true (by simp;omega) W
 go_enter Tryz.func28,Tryz.ntmps28
 go_wp2_with (first
  | (go_at_call 75;refine (hW _).mono ?_;clear hW;rintro e w' ⟨rfl,rfl⟩)
  | (at_make;refine elemRowsM.wp_make rfl _ _ rfl .i64 .i64 n rfl rfl (by omega) (by omega) ?_;intro w1 g1 hg1 hs1 hb1 hk1;subst hg1))
 have hov:w1.ownsRow w.heap.size 40 1 (.slice (some ⟨w.heap.size,0,none⟩) n n) n (List.replicate n (.slice none 0 0)):=VI (e:=40) (s:=1) (z := .slice none 0 0) hb1 (by omega) (by omega) (by omega) (by simp) rfl
 have hB:=Blk.new w1 139 #[.slice none 0 0,.slice (some ⟨w.heap.size,0,none⟩) n n,.int .i64 0,.int .i64 0,.int .i64 0]
 have hkA:Keep [] w (w1.alloc (.cells #[.slice none 0 0,.slice (some ⟨w.heap.size,0,none⟩) n n,.int .i64 0,.int .i64 0,.int .i64 0] 139)):=hk1.alloc _
 have hov2:=ZD hov (.cells #[.slice none 0 0,.slice (some ⟨w.heap.size,0,none⟩) n n,.int .i64 0,.int .i64 0,.int .i64 0] 139)
 generalize hwA:w1.alloc (.cells #[.slice none 0 0,.slice (some ⟨w.heap.size,0,none⟩) n n,.int .i64 0,.int .i64 0,.int .i64 0] 139)=wA at *
 rw [hs1] at hB
 clear hov hk1 hs1 hb1
 obtain ⟨d,hd⟩:∃ d,d=w.heap.size+1:=⟨_,rfl⟩
 rw [← hd] at hB
 go_wp2_with fail
 try rw [hwA]
 try rw [← hd]
 clear hwA
 have HD:=JC hd
 clear hd
 go_loopw [4] (fun i wr=>∃ (k:Nat) (S:Value) (sv:List Value),k≤n∧i = .int .i64 (k:Nat)∧Blk wr d 139 #[S,.slice (some ⟨w.heap.size,0,none⟩) n n,.int .i64 0,.int .i64 0,.int .i64 0] ∧
  wr.ownsRow w.heap.size 40 1 S k sv∧wr.ownsRow w.heap.size 40 1 (.slice (some ⟨w.heap.size,0,none⟩) n n) n (List.replicate n (.slice none 0 0))∧w.heap.size∉S.ownBlock.toList∧Hid (∀ v∈sv,wr.ownsRow w.heap.size 5 1 v 64 (bys zeros64))∧Keep [] w wr) (fun i _=>n-(intOf i).toNat)
 case atStart=>exact ⟨0,.slice none 0 0,[],Nat.zero_le _,rfl,hB,World.ownsRow_nil _ _ _ _,hov2,by simp [Value.ownBlock],(by show ∀ v∈([]:List Value),_;intro v hv;cases hv),hkA⟩
 case round=>
  clear hB hov2 hkA
  obtain ⟨k,S,sv,hk,rfl,hbr,hsr,hur,hnS,hzr,hkr⟩:=hrel
  obtain ⟨c0,c1,c2,c3,c4⟩:=QU hbr
  by_cases hlt:k<n
  · have hltI:((k:Nat):Int)<(n:Nat):=by omega
    go_wp2_with fail
    refine KA (fun w'=>w'.cell? ⟨d,0,none⟩=some S) 8 [(0,false),(1,false),(2,false),(3,false),(4,false),(5,true),(6,true),(7,true)]
     (by kernel_rfl) (by kernel_rfl) (fun _ _ d _ _ h=>by cases d <;> exact h) c0 ?_
    simp only [PI]
    iterate 5 (refine ZB ?_ (by rfl) ?_ ?_;rotate_left;(focus (intro W hW;go_simp;try with_reducible rfl));simp only [Act.put,PU])
    refine KB (by rfl) (fun K hK=>?_)
    refine elem8M.wp1_make _ _ rfl .i64 .i64 64 rfl rfl (by omega) (by omega) ?_
    intro w2 g2 hg2 hs2 hb2 hk2
    obtain rfl:g2=wr.heap.size:=hg2
    clear hs2
    have hkB:Keep [] wr w2:=(Keep.refl _ _).drew.trans0 hk2
    have hz2:w2.ownsRow w.heap.size 5 1 (.slice (some ⟨wr.heap.size,0,none⟩) 64 64) 64 (bys zeros64):=VI (e:=5) (s:=1) (z := .int .u8 0) hb2 (by omega) hkr.size (by omega) (by simp [bys,by8,zeros64]) rfl
    refine hK _ _ ((QU (hbr.keep0 hkB)).1) ?_
    clear hK K
    try simp only [Act.put,PU]
    refine KB (by rfl) (fun K hK=>?_)
    go_wp2_with fail
    have hrd:=VL w2 (Value.slice (some ⟨wr.heap.size,0,none⟩) 64 64) 40
    have hkC:Keep [] wr (w2.alloc (.cells #[Value.slice (some ⟨wr.heap.size,0,none⟩) 64 64] 40)):=hkB.alloc _
    have hz3:=ZD hz2 (.cells #[Value.slice (some ⟨wr.heap.size,0,none⟩) 64 64] 40)
    generalize w2.alloc (.cells #[Value.slice (some ⟨wr.heap.size,0,none⟩) 64 64] 40)=w3 at *
    generalize w2.heap.size=n4 at *
    refine hK _ _ ((QU (hbr.keep0 hkC)).1) ?_
    clear hK K
    try simp only [Act.put,PU]
    refine KB (by rfl) (fun K hK=>?_)
    refine elemRows.wp1_app (.tmp 21) (.tmp 23) (by rfl) w.heap.size S k sv (by rfl) (XB hsr hkC) (some ⟨n4,0,none⟩) 1 1 [Value.slice (some ⟨wr.heap.size,0,none⟩) 64 64] (by rfl) hrd (by simp [Value.oneCell']) (by omega) (by omega) (Nat.le_trans hkr.size hkC.size) ?_
    intro S' w4 hS' hk4 hSb _
    have hdS:d∉S.ownBlock.toList:=fun hm=>own_blk_ne hsr hbr (by decide) (by simpa using hm)
    have hblk4:=(hbr.keep0 hkC).keep hk4 hdS
    refine hK _ _ ((QU hblk4).1) ?_
    clear hK K
    try simp only [Act.put,PU]
    refine ZC ?_
    have f0:=hblk4.frozen 0
    have j0:=(QU hblk4).1
    have hb5:=hblk4.set 0 S'
    have hk5:Keep [d] w4 (w4.setCell ⟨d,0,none⟩ S'):=(Keep.refl _ _).setCell (p:=⟨d,0,none⟩) (.inl (by simp)) _
    have hul:w.heap.size<wr.heap.size:=(own_mem hur (g:=w.heap.size) (by simp [Value.ownBlock])).2
    have hdS':d∉S'.ownBlock.toList:=fun hm=>by
     rcases hSb with e | e
     · rw [e] at hm;exact hdS hm
     · rw [e] at hm;simp at hm;have:=hbr.lt;have:=hkC.size;omega
    have hnS':w.heap.size∉S'.ownBlock.toList:=fun hm=>by
     rcases hSb with e | e
     · rw [e] at hm;exact hnS hm
     · rw [e] at hm;simp at hm;have:=hkC.size;omega
    have hst:∀ {e:TypeId} {s n:Nat} {v:Value} {xs:List Value},w3.ownsRow w.heap.size e s v n xs→e≠40→e≠139→(w4.setCell ⟨d,0,none⟩ S').ownsRow w.heap.size e s v n xs:=fun hv he he2=>
     QB (QB hv hk4 (fun x hx hm=>own_ne hv (XB hsr hkC) he hx (by simpa using hm))) hk5 (fun x hx hm=>by simp at hm;subst hm;exact own_blk_ne hv (hbr.keep0 hkC) he2 hx)
    have hu5:(w4.setCell ⟨d,0,none⟩ S').ownsRow w.heap.size 40 1 (.slice (some ⟨w.heap.size,0,none⟩) n n) n (List.replicate n (.slice none 0 0)):=
     QB (QB (XB hur hkC) hk4 (fun x hx hm=>by simp [Value.ownBlock] at hx;subst hx;exact hnS hm)) hk5 (fun x hx hm=>by simp at hm;subst hm;exact own_blk_ne (XB hur hkC) (hbr.keep0 hkC) (by decide) hx)
    have hz5:=hst hz3 (by decide) (by decide)
    have hzz:Hid (∀ v∈sv,(w4.setCell ⟨d,0,none⟩ S').ownsRow w.heap.size 5 1 v 64 (bys zeros64)):=fun v hv=>hst (XB (JA hzr v hv) hkC) (by decide) (by decide)
    have hS5:=QB hS' hk5 (fun x hx hm=>by simp at hm;subst hm;exact hdS' (by simpa using hx))
    have hkZ:Keep [] w (w4.setCell ⟨d,0,none⟩ S'):=((hkr.trans0 hkC).trans hk4 (fun x hx => .inr (own_mem hsr hx).1)).trans hk5 (fun x hx => .inr (by simp at hx;have:=JA HD;omega))
    obtain ⟨SA,sc,rfl,_⟩:=JB hS'
    go_wp2_with fail
    go_roundw
    case rel=>exact ⟨k+1,_,_,by omega,by go_num,by simpa using hb5,hS5,hu5,hnS',fun v hv=>by
     simp only [List.mem_append,List.mem_singleton] at hv
     rcases hv with hv | rfl
     · exact JA hzz v hv
     · exact hz5,hkZ⟩
    case measure=>simp [intOf];omega
  · obtain rfl:n=k:=by omega
    go_wp2_with fail
    go_ret
    have hsl:sv.length=n:=by simpa using hsr.1
    refine ⟨d,_,rfl,⟨S,_,sv.map (fun v=>(v,zeros64)),List.replicate n (.slice none 0 0,none),hbr,?_,?_,?_,?_,?_,?_,?_,rfl,?_⟩,hkr⟩
    · simpa [hsl,Function.comp_def] using hsr
    · simpa using hur
    · intro q hq
      obtain ⟨v,hv,rfl⟩:=List.mem_map.1 hq
      exact .inr ⟨zeros64,rfl,by simp [zeros64],JA hzr v hv⟩
    · intro q hq
      obtain rfl:=List.eq_of_mem_replicate hq
      exact .inl ⟨rfl,rfl⟩
    · simp [PIdl.new,Function.comp_def,hsl,List.map_const']
    · simp [PIdl.new]
    · intro e
      rw [e] at hnS
      exact hnS (by simp [Value.ownBlock])
    · have:=JA HD;omega
end
section
open Go.RowKit Go.Shelf
def JAt (w w':World) (B len marks:Nat) (ops:Nat→POp) (V:Value):Prop:=∃ (UA:Option Addr) (n c:Nat) (ls:List (Value×List UInt8)) (j:Nat),V = .slice UA n c∧Rws w' UA n ls∧ls.map (·.2)=(idl B ops j).base∧n≤64∧j≤len∧(j=len∨marks≤(idl B ops j).ep)∧Keep [] w w'
theorem VAi (w:World) (B len marks:Nat) (hB:1≤B∧B≤64) (hlen:len≤60) (hm:marks≤1000000) (ops:Nat→POp) (hops:KAl B ops len) (his:∀ j<len,∃ k b c e xs,OpIs B ops j k b c e xs) (A:Option Addr) (cap oB:Nat) (F:List Nat) (oz:List (Value×POp)) (hO:OHold w oB F (.slice A len cap) oz) (hoz:oz.map (·.2)=(List.range len).map ops) :
 Calls Tryz.prog 41 #[.int .i64 (B:Nat),.int .i64 (marks:Nat),.slice A len cap] w fun e w'=>∃ V,e = .returned V∧JAt w w' B len marks ops V:=by
 have hN:=Zx B hB.1 hB.2 w
 have hol:oz.length=len:=by have:=congrArg List.length hoz;simpa using this
 have HOL:=JC hol
 have HOZ:=JC hoz
 clear hol hoz
 go_enter Tryz.func41,Tryz.ntmps41
 go_wp2_with (
  (refine hN.mono ?_)
  clear hN
  rintro e w1 ⟨i,F1,rfl,hI,hk1⟩)
 have hI0:VAK w1 w.heap.size i F1 (idl B ops 0):=hI
 clear hI
 go_loopw [8] (fun iv wr=>∃ (q:Nat) (FI:List Nat),q≤len∧iv = .int .i64 (q:Nat)∧VAK wr w.heap.size i FI (idl B ops q)∧Keep [] w wr) (fun iv _=>len-(intOf iv).toNat)
 case atStart=>exact ⟨0,F1,Nat.zero_le _,rfl,hI0,hk1⟩
 case round=>
  clear hI0 hk1
  obtain ⟨q,FI,hq,rfl,hI,hkr⟩:=hrel
  obtain ⟨bv,ov,bs,os,hIs⟩:=id hI
  obtain ⟨c0,c1,c2,c3,c4⟩:=hIs.cells
  obtain ⟨l1,l2⟩:=Vn B ops q
  have hsq:=Zh B ops q
  have hepq:(idl B ops q).ep≤q:=by
   clear hI hIs c0 c1 c2 c3 c4 l1 l2 hsq hkr hq
   induction q with
   | zero=>simp [idl,PIdl.new]
   | succ q ih=>
     simp only [idl,PIdl.step]
     split
     · simp only;omega
     · split
       · simp only;omega
       · simp only;omega
  by_cases hlt:q<len
  · by_cases hem:(idl B ops q).ep<marks
    · have hemI:(((idl B ops q).ep:Nat):Int)<(marks:Nat):=by omega
      have hqz:q<oz.length:=by rw [JA HOL];exact hlt
      obtain ⟨k,b,c,e,xs,hOp⟩:=his q hlt
      have hop:oz[q].2=⟨k,b,c,e,xs⟩:=by
       have h1:(oz.map (·.2))[q]? = some oz[q].2:=by rw [List.getElem?_map,List.getElem?_eq_getElem hqz];rfl
       rw [JA HOZ,List.getElem?_map,List.getElem?_range hlt] at h1
       rw [← hOp.op]
       exact (Option.some.inj h1).symm
      have hOr:=hO.keep0 hkr
      have hda:=hOr.data oz[q] (List.getElem_mem hqz)
      have hrdO:=hOr.rd (A:=A) (c:=cap) (by rw [JA HOL])
      rw [JA HOL] at hrdO
      obtain ⟨ob,oo,rfl,hobl,o0,o1,o2,o3,o4⟩:=hrdO.at_ hlt hqz
      rw [hop] at hda o0 o1 o2 o3
      obtain ⟨DA,dc,hv,hdc,_⟩:=JB hda
      rw [hv] at o4 hda
      have hf:=hOp.dev hops hlt
      have hD:=fun n (hn:n=xs.length)=>JAG wr w.heap.size i FI _ hI (by omega) (by omega) (by omega) (by omega) k b c e n dc DA xs (by rw [hn];exact Rd.of_own hda) (by rw [hn];exact hdc) (by rw [hn];exact hf)
      simp only at o4
      obtain ⟨n1,hn1⟩:∃ n,n=xs.length:=⟨_,rfl⟩
      have hD1:=hD n1 hn1
      rw [← hn1] at o4
      rw [← hOp.op] at hD1
      have hstep:(idl B ops q).step (ops q)=idl B ops (q+1):=rfl
      rw [hstep] at hD1
      have hdl:=hI
      clear hD hn1 hop hda hrdO hOr hv hf hstep l1 l2 hsq hepq hdc
      go_wp2_with (
       (refine hD1.mono ?_)
       clear hD1
       rintro e w2 ⟨rfl,FI2,hI2,hk2,hg2⟩)
      go_roundw
      case rel=>exact ⟨q+1,FI2,by omega,by go_num,hI2,hkr.trans hk2 (fun y hy => .inr (by obtain ⟨_,_,_,_,hd⟩:=hdl;exact (hd.lt y hy).1))⟩
      case measure=>simp [intOf];omega
    · have hemI:¬ (((idl B ops q).ep:Nat):Int)<(marks:Nat):=by omega
      obtain ⟨gb,cb,rfl,_,_⟩:=ZE hIs.brow (by rw [hIs.blen];omega)
      go_wp2_with fail
      go_ret
      exact ⟨_,rfl,_,_,_,bs,q,rfl,⟨by simpa using Rd.of_ownN hIs.brow,fun p hp=>by
       rcases hIs.bdat p hp with ⟨h,_⟩ | ⟨ys,h1,h2,h3⟩
       · cases h
       · cases h1
         have:=Bts.of_own h3 (by omega)
         exact this⟩,hIs.bsnd,by rw [hIs.blen];omega,hq,.inr (by omega),hkr⟩
  · obtain rfl:q=len:=by omega
    obtain ⟨gb,cb,rfl,_,_⟩:=ZE hIs.brow (by rw [hIs.blen];omega)
    go_wp2_with fail
    go_ret
    exact ⟨_,rfl,_,_,_,bs,q,rfl,⟨by simpa using Rd.of_ownN hIs.brow,fun p hp=>by
     rcases hIs.bdat p hp with ⟨h,_⟩ | ⟨ys,h1,h2,h3⟩
     · cases h
     · cases h1
       have:=Bts.of_own h3 (by omega)
       exact this⟩,hIs.bsnd,by rw [hIs.blen];omega,hq,.inl rfl,hkr⟩
end
section
open Go.RowKit Go.Shelf
theorem VAT (w:World) (base d g t p:Nat) (Fd Ft Fw:List Nat) (B:Nat) (D:PDisk) (us:List (Nat×Nat)) (lv:List Nat) (W:PW) (h:LogIs w base d g t p Fd Ft Fw B D us lv W) (hf:∀ x∈D.faults,x=false) (hfl:D.faults.length=D.n) (ho:W.Ok) (a:Nat) (ha:a<D.n) :
 Calls Tryz.prog 222 #[.pointer (some ⟨p,0,none⟩),.int .i64 (a:Nat)] w fun e w'=>∃ UA uc,e = .returned (.tuple #[.slice UA 64 uc,.int .i64 0])∧w'.ownsRow w.heap.size 5 1 (.slice UA 64 uc) 64 (bys (KK B D W a))∧Keep [] w w':=by
 obtain ⟨I,Bv,ls,hw⟩:=h.wri
 obtain ⟨BA,bc,rfl,_⟩:=JB hw.bls
 have hrws:=hw.rws rfl
 have hlen:ls.length=W.blocks.length:=hw.len
 have hb6:ls.length≤6:=by rw [hlen,ho.many];exact Nat.le_trans (XK _) ho.few
 obtain ⟨p1,p2,_,_,_⟩:=h.pos
 have hFi:=fun U (hk:Keep [] w U)=>Vt U p g B _ (hw.blk.keep0 hk) rfl W.pos.seg W.pos.off p1 (by omega) rfl rfl (h.geom.keep0 hk)
 have hRd:=fun U (hk:Keep [] w U)=>JAE U base d Fd D (h.disk.keep0 hk) h.off a ha (by rw [List.getElem?_eq_getElem (by omega),hf _ (List.getElem_mem _)])
 have hcl:=fun U (hk:Keep [] w U)=>KD (hw.blk.keep0 hk)
 have hsnd:∀ k (hk:k<ls.length),W.blocks[k]? = some ls[k].2:=fun k hk=>by rw [← hw.snd,List.getElem?_map,List.getElem?_eq_getElem hk];rfl
 have hdat:∀ k (hk:k<ls.length),w.ownsRow base 5 1 ls[k].1 64 (bys ls[k].2):=fun k hk=>hw.dat _ (List.getElem_mem hk)
 have hpb:=XE h.geom.pos h.geom.few
 have hn:=h.many
 obtain ⟨f0,hf0⟩:∃ f,f=6+4*pgs B+24*W.pos.seg+XD W.pos.off 0:=⟨_,rfl⟩
 have hfb:f0≤1000:=by rw [hf0];unfold XD;omega
 have hrw:KK B D W a=if f0≤a∧a<f0+ls.length then W.blocks.getD (a-f0) [] else seg 64 D.now a:=by unfold KK QG;rw [hlen,hf0]
 rw [← hf0] at hFi
 obtain ⟨c0,c1,c2,c3,c4,c5,c6,c7,c8,c9⟩:=hcl w (Keep.refl _ _)
 have HF0:=JC hf0
 have HRW:=JC hrw
 have HSND:=JC hsnd
 have HDAT:=JC hdat
 clear hf0 hrw hsnd hdat h hw hf hfl hn ho hlen
 have HN:=JC (show ls.length=ls.length from rfl)
 obtain ⟨n,hn⟩:∃ n,n=ls.length:=⟨_,rfl⟩
 rw [← hn] at hrws c9 hb6
 have HLN:=JC hn
 clear hn
 go_enter Tryz.func222,Tryz.ntmps222
 go_wp2
 go_loopw [6,7,15] (fun _ _ i U=>∃ k:Nat,k≤n∧i = .int .i64 (k:Nat)∧Keep [] w U∧∀ j<k,a≠f0+j) (fun _ _ i _=>n-(intOf i).toNat)
 case atStart=>exact ⟨0,Nat.zero_le _,rfl,Keep.refl _ _,fun j hj=>by omega⟩
 case round=>
  clear c0 c1 c2 c3 c4 c5 c6 c7 c8 c9
  obtain ⟨k,hk,rfl,hkU,hno⟩:=hrel
  have HNO:=JC hno
  clear hno
  by_cases hlt:k<n
  · have hkl:k<ls.length:=by rw [← JA HLN];exact hlt
    obtain ⟨ab,ao,hBA,hab,hcell,hbt⟩:=(hrws.keep hkU).at_ hlt hkl
    have hda:=JA HDAT k hkl
    obtain ⟨QA,qc,hqv,_⟩:=JB hda
    rw [hqv] at hcell hda
    have hkI:((k:Nat):Int)<(n:Nat):=by omega
    subst hBA
    have hFi1:=hFi wr hkU
    by_cases hea:a=f0+k
    · have heI:((a:Nat):Int)=(f0:Nat)+(k:Nat):=by omega
      have hCl:=fun U (hk':Keep [] w U)=>ZL QA 64 qc _ U ((Rd.of_own hda).keep hk') (by omega)
      go_wp2_with (first
       | (go_at_call 270
          refine hFi1.mono ?_
          clear hFi1
          rintro e w2 ⟨rfl,hk2⟩
          replace hkU:=hkU.trans0 hk2)
       | (go_at_call 115
          refine (hCl _ hkU).mono ?_
          clear hCl
          rintro e w3 ⟨u,rfl,hu,hk3,_⟩))
      obtain ⟨UA,uc,rfl,_⟩:=JB hu
      go_ret2
      refine ⟨UA,uc,rfl,?_,hkU.trans0 hk3⟩
      have e1:KK B D W a=ls[k].2:=by
       rw [JA HRW,if_pos ⟨by omega,by omega⟩,List.getD_eq_getElem?_getD,show a-f0=k by omega,JA HSND k hkl];rfl
      rw [e1]
      exact YC hu hkU.size
    · have heI:¬ ((a:Nat):Int)=(f0:Nat)+(k:Nat):=by omega
      have heB:(((a:Nat):Int) == (f0:Nat)+(k:Nat))=false:=by simpa using heI
      go_wp2_with (
       (refine hFi1.mono ?_)
       clear hFi1
       rintro e w2 ⟨rfl,hk2⟩)
      go_roundw
      case rel=>
       refine ⟨k+1,by omega,by go_num,hkU.trans0 hk2,fun j hj=>?_⟩
       rcases Nat.lt_or_ge j k with h1 | h1
       · exact JA HNO j h1
       · obtain rfl:j=k:=by omega
         exact hea
      case measure=>simp [intOf];omega
  · obtain rfl:k=n:=by omega
    have hRd1:=hRd wr hkU
    obtain ⟨c0,c1,c2,c3,c4,c5,c6,c7,c8,c9⟩:=hcl wr hkU
    go_wp2_with (
     (refine hRd1.mono ?_)
     clear hRd1
     rintro e w2 ⟨u,rfl,hu,hk2⟩)
    obtain ⟨UA,uc,rfl,_⟩:=JB hu
    go_ret2
    refine ⟨UA,uc,rfl,?_,hkU.trans0 hk2⟩
    have e1:KK B D W a=seg 64 D.now a:=by
     rw [JA HRW,if_neg]
     rintro ⟨h1,h2⟩
     rw [← JA HLN] at h2
     exact JA HNO (a-f0) (by omega) (by omega)
    rw [e1]
    exact YC hu hkU.size
theorem Kv {B:Nat} {S:PS} {k j:Nat} (hg:Good B S k j) {a:Int} (ha:RefOk B S a):(XI B S a).length=64:=by
 unfold XI
 split
 · simp [zeros64]
 · rename_i h0
   obtain ⟨_,hl⟩:=ha.resolve_left h0
   unfold KK
   split
   · rename_i h1
     rw [List.getD_eq_getElem?_getD,List.getElem?_eq_getElem (by omega)]
     exact hg.cap.ok.full _ (List.getElem_mem _)
   · exact length_seg 64 _ _ (by have:=hl.hi;have:=hg.many;rw [hg.now];omega)
section
variable (w:World) (base s d:Nat) (F:List Nat) (B:Nat) (S:PS) (h:StoreAt w base s d F B S)
include h
theorem KAX (k j:Nat) (hg:Good B S k j) (a:Int) (hr:RefOk B S a) :
 Calls Tryz.prog 143 #[.pointer (some ⟨s,0,none⟩),.int .i64 a] w fun e w'=>∃ UA uc,e = .returned (.tuple #[.slice UA 64 uc,.int .i64 0])∧w'.ownsRow w.heap.size 5 1 (.slice UA 64 uc) 64 (bys (XI B S a))∧Keep [] w w':=by
 obtain ⟨g,t,p,m,Fd,Ft,Fw,Fm,L0,L1,h,rfl⟩:=h
 obtain ⟨c0,c1,c2,c3,c4,c5,c6,c7,c8,c9,c10,c11,c12,c13,c14,c15,c16,c17⟩:=YE h.blk
 rcases hr with rfl | ⟨h0,hl⟩
 · have hz:XI B S 0=zeros64:=by unfold XI;rw [if_pos rfl]
   rw [hz]
   clear hz hg h
   go_enter Tryz.func143,Tryz.ntmps143
   go_wp2_with (at_make;refine elem8.wp_make rfl _ _ rfl .i64 .i64 64 64 64 rfl rfl rfl rfl (by omega) (by omega) ?_)
   go_ret2
   exact ⟨some ⟨w.heap.size,0,none⟩,64,rfl,JL (Blk.new w _ _) (Nat.le_refl _) (by omega) (by simp) (by simp [zeros64,bys];rfl),(Keep.refl _ _).alloc _⟩
 · have hR:=VAT w base d g t p Fd Ft Fw B S.D S.us S.lv S.W h.log hg.flt hg.flen hg.cap.ok a.toNat (by have:=hl.hi;have:=hg.many;omega)
   rw [show ((a.toNat:Nat):Int)=a by omega] at hR
   have hrr:XI B S a=KK B S.D S.W a.toNat:=by unfold XI;rw [if_neg (by omega)]
   rw [hrr]
   have ha0:¬ a=0:=by omega
   have ha1:(a == 0)=false:=by simpa using ha0
   clear hrr hg h hl
   go_enter Tryz.func143,Tryz.ntmps143
   go_wp2_with (refine hR.mono ?_;clear hR;rintro e w2 ⟨UA,uc,rfl,hu,hk2⟩)
   go_ret2
   exact ⟨UA,uc,rfl,hu,hk2⟩
end
theorem KAm (w:World) (base m:Nat) (F:List Nat) (I:PImage) (h:ImageAt w base m F I) (b:Nat) (hb:b<I.bl.length) :
 Calls Tryz.prog 142 #[.pointer (some ⟨m,0,none⟩),.int .i64 (b:Nat)] w fun e w'=>e = .returned (.tuple #[.int .i64 I.bl[b],.bool true])∧w=w':=by
 obtain ⟨p1,p2,F1,F2,h⟩:=h
 have hT:=KR w base m p1 p2 F F1 F2 I h false
 have hG:=Yq w base p1 F1 I.bl I.bd h.b b hb
 simp only [Bool.false_eq_true,if_false] at hT
 go_enter Tryz.func142,Tryz.ntmps142
 go_wp2_with (first
  | (go_at_call 129;refine hT.mono ?_;clear hT;rintro e w' ⟨rfl,rfl⟩)
  | (refine hG.mono ?_;clear hG;rintro e w' ⟨rfl,rfl⟩))
 go_ret2
 exact ⟨rfl,rfl⟩
section
variable (w:World) (base s d:Nat) (F:List Nat) (B:Nat) (S:PS) (h:StoreAt w base s d F B S)
include h
theorem QAa (k j:Nat) (hg:Good B S k j) (b:Nat) (hb:b<B) :
 Calls Tryz.prog 71 #[.pointer (some ⟨s,0,none⟩),.int .i64 (b:Nat)] w fun e w'=>∃ UA uc,e = .returned (.tuple #[.slice UA 64 uc,.int .i64 0])∧w'.ownsRow w.heap.size 5 1 (.slice UA 64 uc) 64 (bys ((QL B S).getD b []))∧Keep [] w w':=by
 have hbl:=hg.bl
 have hB:=KAX w base s d F B S h k j hg (S.I.bl[b]'(by omega)) (hg.brefs _ (List.getElem_mem _))
 have hbo:(QL B S).getD b []=XI B S (S.I.bl[b]'(by omega)):=by
  unfold QL
  rw [List.getD_eq_getElem?_getD,List.getElem?_map,List.getElem?_eq_getElem (by omega)];rfl
 rw [hbo]
 obtain ⟨g,t,p,m,Fd,Ft,Fw,Fm,L0,L1,h,rfl⟩:=h
 have hH:=Zo w base s d g t p m Fd Ft Fw Fm L0 L1 B S h b 1 (by omega) (by omega)
 have hQ:=Zd w base s d g t p m Fd Ft Fw Fm L0 L1 B S h 0 (.inl rfl)
 have hR:=KAm w base m Fm S.I h.img b (by omega)
 obtain ⟨c0,c1,c2,c3,c4,c5,c6,c7,c8,c9,c10,c11,c12,c13,c14,c15,c16,c17⟩:=YE h.blk
 rw [show ((0:Nat):Int)=0 from rfl] at hQ
 rw [show ((1:Nat):Int)=1 from rfl] at hH
 clear h hbo hg
 generalize S.I.bl[b]'_=a at *
 generalize XI B S a=rr at *
 go_enter Tryz.func71,Tryz.ntmps71
 go_wp2_with (first
  | (go_at_call 141;refine hH.mono ?_;clear hH;rintro e w' ⟨rfl,rfl⟩)
  | (go_at_call 132;refine hQ.mono ?_;clear hQ;rintro e w' ⟨rfl,rfl⟩)
  | (go_at_call 142;refine hR.mono ?_;clear hR;rintro e w' ⟨rfl,rfl⟩)
  | (go_at_call 143;refine hB.mono ?_;clear hB;rintro e w2 ⟨UA,uc,rfl,hu,hk2⟩))
 go_ret2
 exact ⟨UA,uc,rfl,hu,hk2⟩
end
end
section
open Go.RowKit Go.Shelf
def RowsAt (w:World) (N:Nat) (V:Value) (rows:List (List UInt8)):Prop:=∃ (A:Option Addr) (c:Nat) (ls:List (Value×List UInt8)),V = .slice A rows.length c∧ls.map (·.2)=rows∧w.ownsRow N 40 1 V rows.length (ls.map (·.1))∧∀ q∈ls,q.2.length=64∧w.ownsRow N 5 1 q.1 64 (bys q.2)
theorem RowsAt.nil (w:World) (N:Nat):RowsAt w N (.slice none 0 0) []:=⟨none,0,[],rfl,rfl,World.ownsRow_nil _ _ _ _,by simp⟩
theorem RowsAt.keep0 {w w':World} {N:Nat} {V:Value} {rows:List (List UInt8)} (h:RowsAt w N V rows) (hk:Keep [] w w'):RowsAt w' N V rows:=by
 obtain ⟨A,c,ls,h1,h2,h3,h4⟩:=h
 exact ⟨A,c,ls,h1,h2,XB h3 hk,fun q hq=>⟨(h4 q hq).1,XB (h4 q hq).2 hk⟩⟩
theorem RowsAt.rws {w:World} {N:Nat} {A:Option Addr} {n c:Nat} {rows:List (List UInt8)} (h:RowsAt w N (.slice A n c) rows):n=rows.length∧∃ ls,ls.map (·.2)=rows∧Rws w A n ls:=by
 obtain ⟨A',c',ls,h1,h2,h3,h4⟩:=h
 cases h1
 exact ⟨rfl,ls,h2,Rd.of_own h3,fun q hq=>Bts.of_own (h4 q hq).2 (by omega)⟩
theorem YAG (w:World) (base s d:Nat) (F:List Nat) (B:Nat) (S:PS) (h:StoreAt w base s d F B S) (k j:Nat) (hg:Good B S k j) :
 Calls Tryz.prog 24 #[.pointer (some ⟨s,0,none⟩),.int .i64 (B:Nat)] w fun e w'=>∃ V,e = .returned (.tuple #[V,.bool true])∧RowsAt w' w.heap.size V (QL B S)∧Keep [] w w':=by
 have hR:=fun W (hk:Keep [] w W) b hb=>QAa W base s d F B S (h.keep0 hk) k j hg b hb
 have hlen:(QL B S).length=B:=by unfold QL;rw [List.length_map];exact hg.bl
 have h64:=hg.b64
 have hl64:∀ b,b<B→((QL B S).getD b []).length=64:=fun b hb=>by
  have:=(hR w (Keep.refl _ _) b hb)
  unfold QL
  rw [List.getD_eq_getElem?_getD,List.getElem?_map,List.getElem?_eq_getElem (by rw [hg.bl];exact hb)]
  simp only [Option.map_some,Option.getD_some]
  exact Kv hg (hg.brefs _ (List.getElem_mem _))
 clear h hg
 generalize QL B S=rows at *
 go_enter Tryz.func24,Tryz.ntmps24
 go_wp2
 go_loopw [6,7,8,9] (fun l i _ _ wr=>∃ m:Nat,m≤B∧i = .int .i64 (m:Nat)∧RowsAt wr w.heap.size l (rows.take m)∧Keep [] w wr) (fun _ i _ _ _=>B-(intOf i).toNat)
 case atStart=>exact ⟨0,Nat.zero_le _,rfl,RowsAt.nil _ _,Keep.refl _ _⟩
 case round=>
  obtain ⟨m,hm,rfl,hO,hkr⟩:=hrel
  by_cases hlt:m<B
  · have hR1:=hR wr hkr m hlt
    have hx64:=hl64 m hlt
    have hrm:rows[m]? = some (rows.getD m []):=by rw [List.getD_eq_getElem?_getD,List.getElem?_eq_getElem (by omega)];rfl
    have htk:rows.take (m+1)=rows.take m++[rows.getD m []]:=by
     rw [List.take_add_one,hrm];rfl
    obtain ⟨OA,oc,ls,rfl,hls,hown,hdat⟩:=hO
    have hol:(rows.take m).length=m:=by rw [List.length_take];omega
    have hll:ls.length=m:=by have:=congrArg List.length hls;simpa [hol] using this
    rw [hol] at hown ⊢
    have HTK:=JC htk
    have HLS:=JC hls
    have HLL:=JC hll
    have HX:=JC hx64
    have HDAT:=JC hdat
    clear htk hls hll hx64 hrm hol hdat
    generalize rows.getD m []=xs at *
    have hltI:((m:Nat):Int)<(B:Nat):=by omega
    go_wp2_with (first
     | (go_at_call 71
        refine hR1.mono ?_
        clear hR1
        rintro e w2 ⟨UA,uc,rfl,hu,hk2⟩
        have hszz:w.heap.size≤w2.heap.size:=Nat.le_trans hkr.size hk2.size
        have hrd:=VL w2 (.slice UA 64 uc) 40)
     | (at_builtin;refine elemRows.wp_app rfl _ _ (by rfl) w.heap.size _ m (ls.map (·.1)) (by rfl) (ZD (XB hown hk2) _) (some ⟨w2.heap.size,0,none⟩) 1 1 [.slice UA 64 uc] (by rfl) hrd (by simp [Value.oneCell']) (by omega) (by omega) (by simp;omega) ?_))
    intro V' w4 hS' hk4 hSb _
    go_wp2
    go_roundw
    case rel=>
     have hkA:Keep [] w2 (w2.alloc (.cells #[.slice UA 64 uc] 40)):=(Keep.refl _ _).alloc _
     have hsz:w.heap.size≤wr.heap.size:=hkr.size
     have hge:∀ x∈(Value.slice OA m oc).ownBlock.toList,w.heap.size≤x:=fun x hx=>(own_mem hown hx).1
     have hall:=(hk2.trans0 hkA).zero.trans hk4 (fun x hx => .inl hx)
     obtain ⟨VA,vc,rfl,_⟩:=JB hS'
     have hxs:=JA HX
     have hnew:∀ {q:Value} {ys:List UInt8},wr.ownsRow w.heap.size 5 1 q 64 (bys ys)→w4.ownsRow w.heap.size 5 1 q 64 (bys ys):=fun hq=>QB hq hall (fun g hg hm=>own_ne hq hown (by decide) hg (by simpa using hm))
     have hu4:w4.ownsRow w.heap.size 5 1 (.slice UA 64 uc) 64 (bys xs):=QB (YC (XB hu hkA) hsz) hk4 (fun g hg hm=>by have:=(own_mem hu (g:=g) (by simp [hg])).1;have:=(own_mem hown (by simpa using hm)).2;omega)
     refine ⟨m+1,by omega,by go_num,?_,hkr.trans hall (fun x hx => .inr (hge x hx))⟩
     rw [JA HTK]
     have hlm:(rows.take m++[xs]).length=m+1:=by rw [← JA HLS];simp [JA HLL]
     refine ⟨VA,vc,ls++[(.slice UA 64 uc,xs)],by rw [hlm],by rw [List.map_append,JA HLS];rfl,by rw [hlm,List.map_append];exact hS',fun q hq=>?_⟩
     rcases List.mem_append.1 hq with hq | hq
     · exact ⟨(JA HDAT q hq).1,hnew (JA HDAT q hq).2⟩
     · simp at hq;subst hq
       exact ⟨hxs,hu4⟩
    case measure=>simp [intOf];omega
  · obtain rfl:m=B:=by omega
    go_wp2_with fail
    go_ret2
    rw [List.take_of_length_le (by omega)] at hO
    exact ⟨_,rfl,hO,hkr⟩
end
section
open Go.RowKit
theorem ZAQ {B:Nat} {S:PS} {ops:Nat→POp} (hg:Good B S 0 0) (hb:S.I.bl=List.replicate B 0) (ho:S.I.ol=List.replicate B (-1)) (h1:S.st.epoch=0) (h2:S.st.seq=0) (h3:S.st.done=0):Stm B ops 0 S:=by
 refine ⟨hg,?_,?_,h1,h2,h3⟩
 · unfold QL
   rw [hb,List.map_replicate]
   simp [idl,PIdl.new,XI]
 · unfold QT
   rw [ho,List.map_replicate]
   simp [idl,PIdl.new]
end
end Go.Proofs.YtmoagodllhdemaaGreat
