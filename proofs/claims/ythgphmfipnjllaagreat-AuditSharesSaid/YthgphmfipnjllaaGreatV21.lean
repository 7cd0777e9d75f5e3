/- Lemmas of the proof, with their conditions. -/
import Derived.Lib.AppendZeros
import Derived.Test.YthgphmfipnjllaaGreatV16
namespace Go.Proofs.YthgphmfipnjllaaGreat
set_option linter.unusedSimpArgs false
set_option linter.unusedVariables false
set_option maxHeartbeats 4000000
set_option maxRecDepth 20000
section
open Go.RowKit
theorem QAr (n:Nat) (h0:1≤n) (hn:n≤1000000) (w:World) :
 Calls Tryz.prog 377 #[.slice none 0 0,.int .i64 (n:Nat)] w fun e w'=>∃ v,e=.returned v∧w'.ownsRow w.heap.size 5 1 v 0 (bys [])∧Keep [] w w':=by
 have hI:(0:Int)<(n:Nat):=by omega
 obtain⟨i,hi,hz,hs,hb⟩:=elem8.info
 have hrun:=Lib.run_append_nil_zeros (P:=Tryz.prog) w 39 3 39 5 i (.int .u8 0) .i64 .i64 Tryz.underlying39 Tryz.underlying3 hi hz n (by omega) (by omega) (by omega) (by rw[hb];omega)
 have hcap:=grownCap_ge w n 0 5
 have hcap2:=grownCap_le_maxLen w n 0 5 (by simp[maxLen];omega)
 obtain⟨cp,hcp⟩:∃ cp,cp=grownCap w n 0 5:=⟨_,rfl⟩
 rw[← hcp] at hrun hcap hcap2
 have hsz:(Builtin.zeroCells (Value.int .u8 0).cells n++Builtin.zeroCells (Value.int .u8 0).cells (cp-n)).size=cp:=by
  rw[Array.size_append,show (Value.int .u8 0).cells=#[Value.int .u8 0] from rfl,← Array.length_toList,← Array.length_toList,Zb,Zb];simp;omega
 generalize Builtin.zeroCells (Value.int .u8 0).cells n++Builtin.zeroCells (Value.int .u8 0).cells (cp-n)=cs at *
 clear hcp
 go_enter Tryz.func377,Tryz.ntmps377
 go_wp2_with (at_builtin;refine Lib.wpList_append_run _ rfl _ _ _ _ rfl _ _ rfl rfl _ _ hrun ?_)
 go_ret
 refine⟨_,rfl,⟨by simp,.inr ⟨w.heap.size,cp,cs,rfl,Nat.le_refl _,?_,Nat.zero_le _,hcap2,by omega,by simp[bys]⟩⟩,((Keep.refl _ _).drew.alloc _)⟩
 exact(Blk.new w 5 cs).drew
theorem ZAa (A:Option Addr) (n c:Nat) (ls:List (Value×List UInt8)) (w:World) (ha:Rws w A n ls) (h0:1≤(ls.flatMap (·.2)).length) (hT:(ls.flatMap (·.2)).length≤1000000) (hn:n≤1000000) :
 Calls Tryz.prog 347 #[.slice A n c] w fun e w'=>∃ u,e=.returned u∧w'.ownsRow w.heap.size 5 1 u (ls.flatMap (·.2)).length (bys (ls.flatMap (·.2)))∧Keep [] w w':=by
 have hlen:=ha.len
 have HL:=ZB hlen
 have htake:∀ k,((ls.take k).flatMap (·.2)).length≤(ls.flatMap (·.2)).length:=fun k=>by
  conv=>rhs;rw[← List.take_append_drop k ls,List.flatMap_append,List.length_append]
  omega
 have hsnoc:∀ k (hk:k<ls.length),(ls.take (k+1)).flatMap (·.2)=(ls.take k).flatMap (·.2)++ls[k].2:=fun k hk=>by
  rw[List.take_succ_eq_append_getElem hk,List.flatMap_append];simp
 obtain⟨T,hTe⟩:∃ T,T=(ls.flatMap (·.2)).length:=⟨_,rfl⟩
 have hG:=fun W=>QAr T (by omega) (by omega) W
 rw[← hTe] at hT h0 htake
 have HT:=ZB hTe
 have HS:=ZB hsnoc
 have HTK:=ZB htake
 clear hlen hTe hsnoc htake
 go_enter Tryz.func347,Tryz.ntmps347
 go_wp2_with fail
 obtain⟨sf,hsf⟩:∃ sf:Nat→Nat,∀ k,sf k=((ls.take k).flatMap (·.2)).length:=⟨_,fun _=>rfl⟩
 have hs0:sf 0=0:=by rw[hsf];simp
 have hsle:∀ k,sf k≤T:=fun k=>by rw[hsf];exact QA HTK k
 have hsT:sf n=T:=by rw[hsf,List.take_of_length_le (Nat.le_of_eq (QA HL)),← QA HT]
 have hss:∀ k (hk:k<ls.length),sf (k+1)=sf k+ls[k].2.length:=fun k hk=>by rw[hsf,hsf,QA HS k hk,List.length_append]
 have HSS:=ZB hss
 have HST:=ZB hsT
 clear hss hsf hsT
 go_loopw [3,5,11] (fun z _ i wr=>∃ k:Nat,k≤n∧i=.int .i64 k∧z=.int .i64 (sf k:Nat)∧Keep [] w wr) (fun _ _ i _=>n-(intOf i).toNat)
 case atStart=>exact⟨0,Nat.zero_le _,rfl,by rw[hs0];rfl,Keep.refl _ _⟩
 case round=>
  obtain⟨k,hk,rfl,rfl,hkr⟩:=hrel
  have hsum:=hsle k
  by_cases hlt:k<n
  · have hkl:k<ls.length:=by rw[QA HL];exact hlt
    have hltI:((k:Nat):Int)<(n:Nat):=by omega
    obtain⟨b,o,rfl,hb,hc,hr⟩:=(ha.keep hkr).at_ hlt hkl
    have hsum2:=hsle (k+1)
    have hsn:=QA HSS k hkl
    rw[hsn] at hsum2
    have HSN:=ZB hsn
    clear hsn
    generalize ls[k]=p at *
    obtain⟨pv,pb⟩:=p
    obtain⟨PA,pn,pc,hpv,h1,h2,h3⟩:=hr
    simp only at hpv
    subst hpv
    have hpl:pb.length=pn:=by simpa using h3.1
    simp only[hpl] at hsum2 HSN
    clear hpl
    generalize hq:sf k=q at *
    generalize hq2:sf (k+1)=q2 at *
    clear hq hs0 hsle
    go_wp2_with fail
    go_roundw
    case rel=>exact⟨k+1,by omega,by go_num,by rw[hq2,HSN];go_num,hkr⟩
    case measure=>simp[intOf];omega
  · obtain rfl:n=k:=by omega
    rw[QA HST]
    go_wp2_with (refine(hG _).mono ?_;rintro e w1 ⟨v,rfl,hv0,hk1⟩)
    have hv:=VC hv0 hkr.size
    clear hs0 hsle hsum hv0
    obtain⟨i,hi,hz,hs,hb⟩:=elem8.info
    go_loopw [6,8,27] (fun v _ i wr=>∃ (k:Nat) (L:List UInt8),k≤n∧i=.int .i64 k∧Hid (L=(ls.take k).flatMap (·.2))∧wr.ownsRow w.heap.size 5 1 v L.length (bys L)∧Keep [] w wr) (fun _ _ i _=>n-(intOf i).toNat)
    case atStart=>exact⟨0,[],Nat.zero_le _,rfl,by show _=_;simp,hv,hkr.trans0 hk1⟩
    case round=>
     clear hv hk1 hkr
     obtain⟨k,L,hk,rfl,hL,hv,hkr⟩:=hrel
     by_cases hlt:k<n
     · have hkl:k<ls.length:=by rw[QA HL];exact hlt
       have hltI:((k:Nat):Int)<(n:Nat):=by omega
       have HH:=ZB ((QA HS) k hkl)
       have hsum2:=QA HTK (k+1)
       rw[QA HH,List.length_append,← QA hL] at hsum2
       obtain⟨b,o,rfl,hb,hc,hr⟩:=(ha.keep hkr).at_ hlt hkl
       generalize ls[k]=p at *
       obtain⟨pv,pb⟩:=p
       obtain⟨PA,pn,pc,hpv,h1,h2,h3⟩:=hr
       simp only at hpv
       subst hpv
       have hpl:pb.length=pn:=by simpa using h3.1
       simp only[hpl] at hsum2
       have HPL:=ZB hpl
       clear hpl
       have hsz:=hkr.size
       go_wp2_with (at_builtin;refine elem8.wp_app rfl (.tmp 31) (.tmp 32) rfl w.heap.size _ L.length (bys L) rfl hv _ pn pc _ rfl h3 (fun u hu=>by obtain⟨q,_,rfl⟩:=List.mem_map.1 hu;rfl) (by omega) (by omega) (by omega) ?_;rintro v' w2 hv2 hk2 _ _)
       go_roundw
       case rel=>
        refine⟨k+1,L++pb,by omega,by go_num,?_,by rw[List.length_append,QA HPL,VY];exact hv2,hkr.trans hk2 fun x hx=>.inr (own_mem hv hx).1⟩
        show _=_
        rw[QA HH,← QA hL]
       case measure=>simp[intOf];omega
     · obtain rfl:n=k:=by omega
       have e:L=ls.flatMap (·.2):=by rw[QA hL,List.take_of_length_le (Nat.le_of_eq (QA HL))]
       subst e
       have HV:=ZB hv
       clear hv hL
       go_wp2
       go_ret
       exact⟨_,rfl,QA HV,hkr⟩
end
section
open Go.RowKit
theorem Rws.keepN {w w':World} {A:Option Addr} {n:Nat} {ls:List (Value×List UInt8)} (h:Rws w A n ls) (hk:Keep [] w w'):Rws w' A n ls:=h.keep hk
theorem ZAH {w:World} {n base c:Nat} {u:Value} {bs:List UInt8} {ls:List (Value×List UInt8)} {G:Option Addr}
 (hown:w.ownsRow base 39 1 (.slice G (1+n) c) (1+n) ([u]++ls.map (·.1))) (hu:Bts w u bs) (hl:∀ p∈ls,Bts w p.1 p.2):Rws w G (1+n) ((u,bs) :: ls):=by
 refine⟨by have:=Rd.of_own hown;simpa using this,fun p hp=>?_⟩
 rcases List.mem_cons.1 hp with rfl | hp
 · exact hu
 · exact hl p hp
end
section
open Go.RowKit
def KAT (mount lsn prev:Nat) (is:List PItem) (m:Nat):List UInt8:=fields [(1,75),(1,82),(4,mount),(4,lsn),(4,prev),(1,is.length),(1,m)]++ZL is
def JV (mount lsn prev:Nat) (is:List PItem) (bls:List (List UInt8)):Nat:=ZQ (KP 60 (KAT mount lsn prev is bls.length)++bls.flatten)
def QAU (mount lsn prev:Nat) (is:List PItem) (bls:List (List UInt8)):List UInt8:=KP 60 (KAT mount lsn prev is bls.length)++le 4 (JV mount lsn prev is bls)
@[simp] theorem length_recH (mount lsn prev:Nat) (is:List PItem) (m:Nat):(KAT mount lsn prev is m).length=16+7*is.length:=by simp[KAT,widths]
theorem JP (mount lsn prev:Nat) (is:List PItem) (bls:List (List UInt8)) (h:is.length≤6):(QAU mount lsn prev is bls).length=64:=by
 unfold QAU
 rw[List.length_append,length_le,length_zpad (by rw[length_recH];omega)]
theorem KAq (mount lsn prev:Nat) (is:List PItem) (n m:Nat) (hl:is.length=n) (h6:n≤6) :
 ((((([]++[75,82].flatMap (le 1))++[mount,lsn,prev].flatMap (le 4))++[n,m].flatMap (le 1))++ZL is)++List.replicate (44-7*n) 0)=KP 60 (KAT mount lsn prev is m):=by
 unfold KP
 rw[length_recH,hl,show 60-(16+7*n)=44-7*n by omega]
 congr 1
 unfold KAT
 rw[hl]
 simp[fields]
theorem XAb (mount lsn prev:Nat) (h2:1≤mount∧mount≤2147483647) (h3:1≤lsn∧lsn≤2147483647) (h4:prev≤4294967295) (g n c:Nat) (is:List PItem) (A:Option Addr) (m bc:Nat) (ls:List (Value×List UInt8)) (w:World)
 (ha:Rd w (some ⟨g,0,none⟩) (n*4) (is.flatMap itc)) (hl:is.length=n) (hm:∀ i∈is,i.May) (h1:1≤n) (h6:n≤6) (hb:Rws w A m ls) (h64:∀ p∈ls,p.2.length=64) (hlo:m=YE is) :
 Calls Tryz.prog 286 #[.agg #[.int .i64 mount,.int .i64 lsn,.int .i64 prev,.slice (some ⟨g,0,none⟩) n c,.slice A m bc]] w fun e w'=>∃ u,e=.returned (.tuple #[u,.int .i64 (JV mount lsn prev is (ls.map (·.2)):Nat),.int .i64 0]) ∧
  w'.ownsRow w.heap.size 5 1 u (QAU mount lsn prev is (ls.map (·.2))++ls.flatMap (·.2)).length (bys (QAU mount lsn prev is (ls.map (·.2))++ls.flatMap (·.2)))∧Keep [] w w':=by
 have hm6:m≤6:=by have:=VH is;omega
 have hlb:(ls.flatMap (·.2)).length=64*m:=by
  rw[← hb.len]
  clear hb hlo
  induction ls with
  | nil=>rfl
  | cons p ls ih=>rw[List.flatMap_cons,List.length_append,h64 p (by simp),ih (fun q hq=>h64 q (by simp[hq]))];simp;omega
 have HLB:=ZB hlb
 have HIL:=ZB hl
 have HBL:=ZB hb.len
 have hM:=fun W (hk:Keep [] w W)=>YAP mount lsn prev h2 h3 h4 g n c is A m bc ls W (ha.keep hk) hl hm h1 h6 (hb.keep hk) h64 hlo
 have hI:=fun W (hk:Keep [] w W)=>YAH g n c is W (ha.keep hk) hl hm h6
 have hBk:=Blk.new w 239 #[.int .i64 mount,.int .i64 lsn,.int .i64 prev,.slice (some ⟨g,0,none⟩) n c,.slice A m bc]
 clear hl hlo hlb
 go_enter Tryz.func286,Tryz.ntmps286
 obtain⟨w1,hw1⟩:∃ w1,w1=w.alloc (.cells #[.int .i64 mount,.int .i64 lsn,.int .i64 prev,.slice (some ⟨g,0,none⟩) n c,.slice A m bc] 239):=⟨_,rfl⟩
 have hk1:Keep [] w w1:=by rw[hw1];exact(Keep.refl _ _).alloc _
 go_wp2_with (
  (refine(hM _ ((Keep.refl _ _).alloc _)).mono ?_)
  clear hM
  rintro e w2 ⟨rfl,hk2⟩
  rw[← hw1] at hk2 hBk
  clear hw1
  have hk12:=hk1.trans0 hk2
  have hB2:=hBk.keep0 hk2
  clear hBk hk1
  obtain⟨c0,c1,c2,c3,c4⟩:=ZC hB2
  have hlt:=hB2.lt)
 go_wp2_with (
  (refine(hI _ hk12).mono ?_)
  clear hI
  rintro e w3 ⟨ui,rfl,hui,hk3⟩
  have hk13:=hk12.trans0 hk3
  have hB3:=hB2.keep0 hk3
  clear c0 c1 c2 c3 c4 hlt)
 obtain⟨UI,uic,rfl,_⟩:=QB hui
 have hN:=KBC 64 (by omega) w3
 obtain⟨c0,c1,c2,c3,c4⟩:=ZC hB3
 have hlt:=hB3.lt
 go_wp2_with (
  (refine hN.mono ?_)
  clear hN
  rintro e w4 ⟨r,rv,rfl,hR,hK4⟩
  have hB4:=hB3.keep0 hK4
  have hui4:=ZA hui hK4
  clear c0 c1 c2 c3 c4 hlt)
 have hP:=Kw (k:=1) hR (by omega) [75,82] (by simp) (by simp) (by simp) #[.int .i64 75,.int .i64 82] rfl 2 rfl
 go_wp2_with (
  (refine hP.mono ?_)
  clear hP
  rintro e w5 ⟨rfl,hR5,hK5⟩
  have hK5':=hK4.trans hK5 (fun x hx=>.inr (hR.fresh x hx))
  have hB5:=hB3.keep0 hK5'
  obtain⟨c0,c1,c2,c3,c4⟩:=ZC hB5
  have hlt:=hB5.lt
  clear hR hK5 hB4 hui4 hK4)
 have hP:=Kw (k:=4) hR5 (by omega) [mount,lsn,prev] (by simp;omega) (by simp) (by simp[length_le]) #[.int .i64 mount,.int .i64 lsn,.int .i64 prev] rfl 3 rfl
 go_wp2_with (
  (refine hP.mono ?_)
  clear hP
  rintro e w6 ⟨rfl,hR6,hK6⟩
  have hK6':=hK5'.trans hK6 (fun x hx=>.inr (hR5.fresh x hx))
  have hB6:=hB3.keep0 hK6'
  clear c0 c1 c2 c3 c4 hlt
  obtain⟨c0,c1,c2,c3,c4⟩:=ZC hB6
  have hlt:=hB6.lt
  clear hR5 hK6 hB5 hK5')
 have hP:=Kw (k:=1) hR6 (by omega) [n,m] (by simp;omega) (by simp) (by simp[length_le]) #[.int .i64 n,.int .i64 m] rfl 2 rfl
 go_wp2_with (
  (refine hP.mono ?_)
  clear hP
  rintro e w7 ⟨rfl,hR7,hK7⟩
  have hK7':=hK6'.trans hK7 (fun x hx=>.inr (hR6.fresh x hx))
  have hB7:=hB3.keep0 hK7'
  clear c0 c1 c2 c3 c4 hlt
  clear hR6 hK7 hB6 hK6')
 have hui7:=ZA hui hK7'
 have hP:=XBH hR7 UI (7*n) uic (ZL is) (Rd.of_own hui7) (by simp[length_le];omega)
 go_wp2_with (
  (refine hP.mono ?_)
  clear hP
  rintro e w8 ⟨rfl,hR8,hK8⟩
  have hK8':=hK7'.trans hK8 (fun x hx=>.inr (hR7.fresh x hx))
  clear hR7 hK8 hB7 hK7' hui7)
 have hw44:((44-7*n:Nat):Int)=44-((7*n:Nat):Int):=by omega
 have hP:=JBF (m:=44-7*n) hR8 (by simp[length_le];have:=QA HIL;omega)
 rw[hw44] at hP
 clear hw44
 go_wp2_with (
  (refine hP.mono ?_)
  clear hP
  rintro e w9 ⟨ut,rfl,hR9,hK9⟩
  have hK9':=hK8'.trans hK9 (fun x hx=>.inr (hR8.fresh x hx))
  clear hR8 hK9 hK8')
 have hB9:=hB3.keep0 hK9'
 rw[KAq mount lsn prev is n m (QA HIL) h6] at hR9
 have hlH:(KP 60 (KAT mount lsn prev is m)).length=60:=length_zpad (by rw[length_recH,QA HIL];omega)
 have hse:∀ v:Value,ZQ (List.flatMap (·.2) ((v,(KP 64 (KP 60 (KAT mount lsn prev is m))).take 60) :: ls))=JV mount lsn prev is (ls.map (·.2)):=by
  intro v
  rw[List.flatMap_cons]
  unfold JV
  rw[List.length_map,QA HBL,List.flatMap_def]
  congr 2
  unfold KP at hlH ⊢
  rw[List.take_left' hlH]
 have hs2:∀ sum,sum=JV mount lsn prev is (ls.map (·.2))→KP 64 (KP 60 (KAT mount lsn prev is m)++[sum].flatMap (le 4))=QAU mount lsn prev is (ls.map (·.2)):=by
  intro sum hs
  rw[XAB (by rw[List.length_append,hlH];simp[length_le]),hs]
  unfold QAU
  rw[List.length_map,QA HBL]
  simp
 have hlS:=JP mount lsn prev is (ls.map (·.2)) (by rw[QA HIL];exact h6)
 generalize KP 60 (KAT mount lsn prev is m)=H9 at *
 have HSE:=ZB hse
 have HS2:=ZB hs2
 clear hse hs2
 refine ZT (fun w'=>w'.cell? ⟨w.heap.size,4,none⟩=some (.slice A m bc)) 6 [[0,4,5],[1,2],[3]] (ZC hB9.drew).2.2.2.2 ?_
 simp only[PI]
 iterate 3 (refine ZH ?_;simp only[Act.put,PU])
 refine XB (by rfl) (fun K hK=>?_)
 go_wp2_with (
  (refine(Zt (hR9.keep0 (Keep.refl _ _).drew)).mono ?_)
  rintro e w10 ⟨ub,rfl,hub,hk10⟩)
 have hbl:(KP 64 H9).length=64:=length_zpad (by omega)
 obtain⟨bs,hbs⟩:∃ bs,bs=KP 64 H9:=⟨_,rfl⟩
 rw[← hbs] at hub hbl
 have HBS:=ZB hbs
 clear hbs
 obtain⟨gb,cb,rfl,hcb⟩:=ZG hub (by omega)
 have hkA:Keep [] w9 w10:=(Keep.refl _ _).drew.trans0 hk10
 refine hK _ _ ((ZC (hB9.keep0 hkA)).2.2.2.2) ?_
 clear hK K
 try simp only[Act.put,PU]
 have hcbI:(60:Int)≤(cb:Nat):=by omega
 iterate 1 (refine ZH ?_;simp only[Act.put,PU])
 refine XB (by rfl) (fun K hK=>?_)
 go_wp2_with fail
 refine hK _ _ ((ZC ((hB9.keep0 hkA).keep0 ((Keep.refl _ _).alloc _))).2.2.2.2) ?_
 clear hK K
 try simp only[Act.put,PU]
 refine JB ?_
 obtain⟨wA,hwA⟩:∃ wA,wA=w10.alloc (.cells #[.slice (some ⟨gb,0,none⟩) 60 cb] 39):=⟨_,rfl⟩
 have hkB:Keep [] w10 wA:=by rw[hwA];exact(Keep.refl _ _).alloc _
 have hoA:wA.ownsRow w10.heap.size 39 1 (.slice (some ⟨w10.heap.size,0,none⟩) 1 1) 1 [.slice (some ⟨gb,0,none⟩) 60 cb]:=by
  rw[hwA];exact VM (Blk.new w10 39 #[.slice (some ⟨gb,0,none⟩) 60 cb]) (Nat.le_refl _) (by omega) (by simp) (by simp)
 have hszA:w10.heap.size≤wA.heap.size:=hkB.size
 rw[← hwA]
 clear hwA
 have hbA:=hb.keep (((hk13.trans0 hK9').trans0 hkA).trans0 hkB)
 go_wp2_with (at_builtin;refine elemRows.wp_app rfl (.tmp 51) (.tmp 53) rfl w10.heap.size _ 1 _ rfl hoA A m bc (ls.map (·.1)) rfl hbA.1 (fun u hu=>by obtain⟨p,hp,rfl⟩:=List.mem_map.1 hu;obtain⟨_,_,_,e,_⟩:=hbA.2 p hp;rw[e];rfl) (by omega) (by omega) hszA ?_;rintro v' w11 hv' hk11 _ _)
 obtain⟨VG,vc,rfl,_⟩:=QB hv'
 have hkC:Keep [] w10 w11:=hkB.trans hk11 (fun x hx=>.inr (own_mem hoA hx).1)
 have hK11:Keep [] w3 w11:=(hK9'.trans0 hkA).trans0 hkC
 have h60:Bts w11 (.slice (some ⟨gb,0,none⟩) 60 cb) (bs.take 60):=by
  refine⟨_,_,_,rfl,by omega,by omega,?_⟩
  have h1:=(Rd.of_own (ZA hub hkC)).take (k:=60) (by omega)
  rwa [YO] at h1
 have hR11:Rws w11 VG (1+m) ((.slice (some ⟨gb,0,none⟩) 60 cb,bs.take 60) :: ls):=ZAH hv' h60 (fun p hp=>(hb.2 p hp).keep (hk13.trans0 hK11))
 have hS:=KAU VG (1+m) vc _ w11 hR11 (by omega)
 have hlt:=KX (List.flatMap (·.2) ((.slice (some ⟨gb,0,none⟩) 60 cb,bs.take 60) :: ls))
 rw[QA HBS,QA HSE] at hS hlt
 obtain⟨sum,hsm⟩:∃ s,s=JV mount lsn prev is (ls.map (·.2)):=⟨_,rfl⟩
 rw[← hsm] at hS hlt
 have HSM:=ZB hsm
 clear hsm
 go_wp2_with (refine hS.mono ?_;clear hS;rintro e w12 ⟨rfl,rfl⟩)
 have hR11':=hR9.keep0 (hkA.trans0 hkC)
 have hP:=Kw (k:=4) hR11' (by omega) [sum] (by simp;omega) (by simp) (by simp;omega) #[.int .i64 sum] rfl 1 rfl
 go_wp2_with (
  (refine hP.mono ?_)
  clear hP
  rintro e w13 ⟨rfl,hR13,hK13⟩)
 have hKf:Keep [] w3 w13:=hK11.trans hK13 (fun x hx=>.inr (hR11'.fresh x hx))
 have hB13:=hB3.keep0 hKf
 clear hR11' hR11 h60 hv' hoA hbA hub hk11 hK11 hkC hkB hkA
 refine ZT (fun w'=>w'.cell? ⟨w.heap.size,4,none⟩=some (.slice A m bc)) 9 [[0,3,4,7],[1],[2],[5],[6,8]] (ZC hB13.drew).2.2.2.2 ?_
 simp only[PI]
 iterate 4 (refine ZH ?_;simp only[Act.put,PU])
 refine XB (by rfl) (fun K hK=>?_)
 go_wp2_with (
  (refine(Zt (hR13.keep0 (Keep.refl _ _).drew)).mono ?_)
  rintro e w14 ⟨ub2,rfl,hub2,hk14⟩)
 rw[QA HS2 _ (QA HSM)] at hub2
 obtain⟨bs2,hb2⟩:∃ b,b=QAU mount lsn prev is (ls.map (·.2)):=⟨_,rfl⟩
 rw[← hb2] at hub2 hlS
 have HB2:=ZB hb2
 clear hb2
 have hbl2:bs2.length=64:=hlS
 have hkA:Keep [] w13 w14:=(Keep.refl _ _).drew.trans0 hk14
 obtain⟨gb2,cb2,rfl,hcb2⟩:=ZG hub2 (by omega)
 refine hK _ _ ((ZC (hB13.keep0 hkA)).2.2.2.2) ?_
 clear hK K
 try simp only[Act.put,PU]
 refine XB (by rfl) (fun K hK=>?_)
 go_wp2_with fail
 refine hK _ _ ((ZC ((hB13.keep0 hkA).keep0 ((Keep.refl _ _).alloc _))).2.2.2.2) ?_
 clear hK K
 try simp only[Act.put,PU]
 obtain⟨wA2,hwA⟩:∃ wA,wA=w14.alloc (.cells #[.slice (some ⟨gb2,0,none⟩) 64 cb2] 39):=⟨_,rfl⟩
 have hkB:Keep [] w14 wA2:=by rw[hwA];exact(Keep.refl _ _).alloc _
 have hoA:wA2.ownsRow w14.heap.size 39 1 (.slice (some ⟨w14.heap.size,0,none⟩) 1 1) 1 [.slice (some ⟨gb2,0,none⟩) 64 cb2]:=by
  rw[hwA];exact VM (Blk.new w14 39 #[.slice (some ⟨gb2,0,none⟩) 64 cb2]) (Nat.le_refl _) (by omega) (by simp) (by simp)
 have hszA:w14.heap.size≤wA2.heap.size:=hkB.size
 rw[← hwA]
 clear hwA
 have hbA:=hb.keep (((hk13.trans0 hKf).trans0 hkA).trans0 hkB)
 refine XB (by rfl) (fun K hK=>?_)
 refine elemRows.wp1_app (.tmp 62) (.tmp 64) (by rfl) w14.heap.size _ 1 _ (by rfl) hoA A m bc (ls.map (·.1)) (by rfl) hbA.1 (fun u hu=>by obtain⟨p,hp,rfl⟩:=List.mem_map.1 hu;obtain⟨_,_,_,e,_⟩:=hbA.2 p hp;rw[e];rfl) (by omega) (by omega) hszA ?_
 intro v' w15 hv' hk15 _ _
 obtain⟨VG2,vc2,rfl,_⟩:=QB hv'
 have hkC:Keep [] w14 w15:=hkB.trans hk15 (fun x hx=>.inr (own_mem hoA hx).1)
 refine hK _ _ ((ZC ((hB13.keep0 hkA).keep0 hkC)).2.2.2.2) ?_
 clear hK K
 try simp only[Act.put,PU]
 have h64':Bts w15 (.slice (some ⟨gb2,0,none⟩) 64 cb2) bs2:=⟨_,_,_,rfl,by omega,by omega,Rd.of_own (ZA hub2 hkC)⟩
 have hK15:Keep [] w3 w15:=(hKf.trans0 hkA).trans0 hkC
 have hR15:Rws w15 VG2 (1+m) ((.slice (some ⟨gb2,0,none⟩) 64 cb2,bs2) :: ls):=ZAH hv' h64' (fun p hp=>(hb.2 p hp).keep (hk13.trans0 hK15))
 have hC:=ZAa VG2 (1+m) vc2 _ w15 hR15 (by rw[List.flatMap_cons,List.length_append];simp only;omega) (by rw[List.flatMap_cons,List.length_append,QA HLB];simp only;omega) (by omega)
 refine XB (by rfl) (fun K hK=>?_)
 go_wp2_with (refine hC.mono ?_;clear hC;rintro e w16 ⟨u,rfl,hu,hk16⟩)
 refine hK _ _ ((ZC (((hB13.keep0 hkA).keep0 hkC).keep0 hk16)).2.2.2.2) ?_
 clear hK K
 try simp only[Act.put,PU]
 iterate 1 (refine ZH ?_;simp only[Act.put,PU])
 refine JB ?_
 go_wp2_with fail
 refine bodyPost_ret (v:=.tuple #[u,.int .i64 (sum:Nat),.int .i64 0]) (by simp[results,Tryz.results286,go_sem]) rfl ?_
 rw[← QA HB2,← QA HSM]
 exact⟨u,rfl,VC hu (hk13.trans0 hK15).size,(hk13.trans0 hK15).trans0 hk16⟩
theorem QAi (mount lsn prev:Nat) (is:List PItem) (bls:List (List UInt8)):JV mount lsn prev is bls≤4294967295:=by
 unfold JV
 have:=KX (KP 60 (KAT mount lsn prev is bls.length)++bls.flatten)
 omega
structure RecAs (mount lsn prev:Nat) (is:List PItem) (bls:List (List UInt8)) (rs:List UInt8) (sum:Nat):Prop where
 len:rs.length=64
 eq:rs=QAU mount lsn prev is bls
 sm:sum=JV mount lsn prev is bls
theorem KAP (mount lsn prev:Nat) (h2:1≤mount∧mount≤2147483647) (h3:1≤lsn∧lsn≤2147483647) (h4:prev≤4294967295) (g n c:Nat) (is:List PItem) (A:Option Addr) (m bc:Nat) (ls:List (Value×List UInt8)) (w:World)
 (ha:Rd w (some ⟨g,0,none⟩) (n*4) (is.flatMap itc)) (hl:is.length=n) (hm:∀ i∈is,i.May) (h1:1≤n) (h6:n≤6) (hb:Rws w A m ls) (h64:∀ p∈ls,p.2.length=64) (hlo:m=YE is) :
 Calls Tryz.prog 286 #[.agg #[.int .i64 mount,.int .i64 lsn,.int .i64 prev,.slice (some ⟨g,0,none⟩) n c,.slice A m bc]] w fun e w'=>∃ u rs sum,e=.returned (.tuple #[u,.int .i64 (sum:Nat),.int .i64 0])∧RecAs mount lsn prev is (ls.map (·.2)) rs sum∧sum≤4294967295 ∧
  w'.ownsRow w.heap.size 5 1 u (rs++ls.flatMap (·.2)).length (bys (rs++ls.flatMap (·.2)))∧Keep [] w w':=
 (XAb mount lsn prev h2 h3 h4 g n c is A m bc ls w ha hl hm h1 h6 hb h64 hlo).mono fun e w' ⟨u,he,hu,hk⟩=>⟨u,_,_,he,⟨JP _ _ _ _ _ (by omega),rfl,rfl⟩,QAi _ _ _ _ _,hu,hk⟩
end
section
open Go.RowKit
def JAH (mount lsn prev n m:Nat):List (Nat×Nat):=[(1,75),(1,82),(4,mount),(4,lsn),(4,prev),(1,n),(1,m)]
theorem KAH (w:World) (base r:Nat) (v:Value) (bs t:List UInt8) (mount lsn prev n m:Nat) (hR:RowAt w base r v bs 0) (hbs:bs=fields (JAH mount lsn prev n m)++t) (h1:1≤n) (h6:n≤6) (hm:m≤n) :
 Calls Tryz.prog 381 #[.pointer (some ⟨r,0,none⟩)] w fun e w'=>e=.returned (.tuple #[.int .i64 (n:Nat),.int .i64 (m:Nat),.bool true])∧RowAt w' base r v bs 16∧Keep [r] w w':=by
 have hl:16≤bs.length:=by rw[hbs];simp[JAH,widths]
 have hT1:=YN w base r 0 2 v bs hR (by omega)
 have hT2:=fun W (h:RowAt W base r v bs (0+2))=>YN W base r (0+2) 12 v bs h (by omega)
 have hG1:=fun W (h:RowAt W base r v bs (0+2+12))=>Kz (k:=1) (n:=n) (t:=t) [(1,75),(1,82),(4,mount),(4,lsn),(4,prev)] [(1,m)] h (by rw[hbs];rfl) (by simp[widths]) (by omega) (by omega)
 have hG2:=fun W (h:RowAt W base r v bs (0+2+12+1))=>Kz (k:=1) (n:=m) (t:=t) [(1,75),(1,82),(4,mount),(4,lsn),(4,prev),(1,n)] [] h (by rw[hbs];rfl) (by simp[widths]) (by omega) (by omega)
 have hKR:(bs.drop 0).take 2=[75,82]:=by rw[hbs];simp[JAH,fields,le]
 rw[hKR] at hT1
 have hW:=fun W=>KR n 1 6 W ⟨by omega,by omega⟩
 have hmI:((m:Nat):Int)≤(n:Nat):=by omega
 clear hKR hbs hl
 go_enter Tryz.func381,Tryz.ntmps381
 go_wp2_with (refine hT1.mono ?_;clear hT1;rintro e w1 ⟨u,rfl,hu,hR1,hk1⟩)
 have hT:=hT2 _ hR1
 go_wp2_with (refine hT.mono ?_;clear hT;rintro e w2 ⟨u2,rfl,-,hR2,hk2⟩)
 have hT:=hG1 _ hR2
 go_wp2_with (refine hT.mono ?_;clear hT;rintro e w3 ⟨rfl,hR3,hk3⟩)
 have hT:=hG2 _ hR3
 obtain⟨g,gc,rfl,_⟩:=ZG hu (by omega)
 have hrb:r≠g:=fun e=>own_blk_ne hu hR1.blk (by decide) (by rw[e];rfl)
 have hnr:∀ q,(Value.slice (some ⟨g,0,none⟩) 2 gc).ownBlock=some q→q∉[r]:=fun q hq hm=>by simp[Value.ownBlock] at hq hm;omega
 go_wp2_with (first
  | (go_at_call 307
     refine hT.mono ?_;clear hT;rintro e w4 ⟨rfl,hR4,hk4⟩
     have hu4:=KA (KA (KA hu hk2 hnr) hk3 hnr) hk4 hnr
     have hcv:=JY _ 2 gc [75,82] w4 (Rd.of_own hu4))
  | (go_at_call 373;refine(hW _).mono ?_;clear hW;rintro e w' ⟨rfl,rfl⟩))
 go_ret3
 exact⟨rfl,hR4,((hk1.trans hk2 (fun x hx=>.inl hx)).trans hk3 (fun x hx=>.inl hx)).trans hk4 (fun x hx=>.inl hx)⟩
theorem KAI (A:Option Addr) (c:Nat) (bs t:List UInt8) (mount lsn prev n m:Nat) (w:World) (ha:Rd w A 64 (bys bs)) (hbs:bs=fields (JAH mount lsn prev n m)++t) (h1:1≤n) (h6:n≤6) (hm:m≤n) :
 Calls Tryz.prog 370 #[.slice A 64 c] w fun e w'=>e=.returned (.int .i64 (1+(m:Nat)))∧Keep [] w w':=by
 have hF:=YU A 64 c bs w ha (by omega)
 have hH:=fun W r v (h:RowAt W w.heap.size r v bs 0)=>KAH W w.heap.size r v bs t mount lsn prev n m h hbs h1 h6 hm
 clear hbs ha
 go_enter Tryz.func370,Tryz.ntmps370
 go_wp2_with (first
  | (go_at_call 306;refine hF.mono ?_;clear hF;rintro e w1 ⟨r,v,rfl,hR,hk1⟩;(have hT:=hH _ _ _ hR);clear hH)
  | (go_at_call 381;refine hT.mono ?_;clear hT;rintro e w2 ⟨rfl,hR2,hk2⟩))
 go_ret
 exact⟨rfl,hk1.trans hk2 (fun x hx=>.inr (by simp at hx;have:=hR.base;omega))⟩
def Vp (bs:List UInt8):Prop:=¬ (bs[0]? = some 75∧bs[1]? = some 82)
theorem KAg (w:World) (base r:Nat) (v:Value) (bs:List UInt8) (hR:RowAt w base r v bs 0) (hl:bs.length=64) (hno:Vp bs) :
 Calls Tryz.prog 381 #[.pointer (some ⟨r,0,none⟩)] w fun e w'=>∃ x y:Int,e=.returned (.tuple #[.int .i64 x,.int .i64 y,.bool false])∧Keep [r] w w':=by
 have hT1:=YN w base r 0 2 v bs hR (by omega)
 have hT2:=fun W (h:RowAt W base r v bs (0+2))=>YN W base r (0+2) 12 v bs h (by omega)
 have hG1:=fun W (h:RowAt W base r v bs (0+2+12))=>Zw W base r (0+2+12) 1 v bs h (by omega) (by omega)
 have hG2:=fun W (h:RowAt W base r v bs (0+2+12+1))=>Zw W base r (0+2+12+1) 1 v bs h (by omega) (by omega)
 obtain⟨p,hp⟩:∃ p,bs[0]? = some p:=⟨bs[0],by simp⟩
 obtain⟨q,hq⟩:∃ q,bs[1]? = some q:=⟨bs[1],by simp⟩
 have hpq:(bs.drop 0).take 2=[p,q]:=by
  obtain⟨_,_,t,rfl⟩:∃ p q t,bs=p :: q :: t:=by
   match bs,hl with
   | a :: b :: t,_=>exact⟨a,b,t,rfl⟩
  simp at hp hq
  subst hp hq
  rfl
 have hne:¬ (p=75∧q=82):=fun⟨h1,h2⟩=>hno ⟨by rw[hp,h1],by rw[hq,h2]⟩
 rw[hpq] at hT1
 obtain⟨nx,hnx⟩:∃ nx,nx=num ((bs.drop (0+2+12)).take 1):=⟨_,rfl⟩
 obtain⟨ny,hny⟩:∃ ny,ny=num ((bs.drop (0+2+12+1)).take 1):=⟨_,rfl⟩
 rw[← hnx] at hG1
 rw[← hny] at hG2
 obtain⟨str,hstr⟩:∃ str:ByteArray,str=⟨[p,q].toArray⟩:=⟨_,rfl⟩
 have hse:(str.toList == [75,82])=false:=by
  rw[hstr,ByteArray.toList_mk]
  simp only[beq_eq_false_iff_ne,ne_eq,List.cons.injEq,and_true]
  exact hne
 have HSTR:=ZB hstr
 clear hno hl hp hq hpq hnx hny hne hstr
 go_enter Tryz.func381,Tryz.ntmps381
 go_wp2_with (refine hT1.mono ?_;clear hT1;rintro e w1 ⟨u,rfl,hu,hR1,hk1⟩)
 have hT:=hT2 _ hR1
 go_wp2_with (refine hT.mono ?_;clear hT;rintro e w2 ⟨u2,rfl,-,hR2,hk2⟩)
 have hT:=hG1 _ hR2
 go_wp2_with (refine hT.mono ?_;clear hT;rintro e w3 ⟨rfl,hR3,hk3⟩)
 have hT:=hG2 _ hR3
 obtain⟨g,gc,rfl,_⟩:=ZG hu (by omega)
 have hrb:r≠g:=fun e=>own_blk_ne hu hR1.blk (by decide) (by rw[e];rfl)
 have hnr:∀ q,(Value.slice (some ⟨g,0,none⟩) 2 gc).ownBlock=some q→q∉[r]:=fun q hq hm=>by simp[Value.ownBlock] at hq hm;omega
 go_wp2_with (
  (go_at_call 307
   refine hT.mono ?_;clear hT;rintro e w4 ⟨rfl,hR4,hk4⟩
   have hu4:=KA (KA (KA hu hk2 hnr) hk3 hnr) hk4 hnr
   have hcv:=JY _ 2 gc [p,q] w4 (Rd.of_own hu4)
   rw[← QA HSTR] at hcv))
 all_goals
  go_ret3
  exact⟨_,_,rfl,((hk1.trans hk2 (fun x hx=>.inl hx)).trans hk3 (fun x hx=>.inl hx)).trans hk4 (fun x hx=>.inl hx)⟩
theorem VAb (A:Option Addr) (c:Nat) (bs:List UInt8) (w:World) (ha:Rd w A 64 (bys bs)) (hno:Vp bs) :
 Calls Tryz.prog 370 #[.slice A 64 c] w fun e w'=>e=.returned (.int .i64 0)∧Keep [] w w':=by
 have hl:bs.length=64:=by have:=ha.1;simpa using this
 have hF:=YU A 64 c bs w ha (by omega)
 have hH:=fun W r v (h:RowAt W w.heap.size r v bs 0)=>KAg W w.heap.size r v bs h hl hno
 clear ha hno hl
 go_enter Tryz.func370,Tryz.ntmps370
 go_wp2_with (first
  | (go_at_call 306;refine hF.mono ?_;clear hF;rintro e w1 ⟨r,v,rfl,hR,hk1⟩;(have hT:=hH _ _ _ hR);clear hH)
  | (go_at_call 381;refine hT.mono ?_;clear hT;rintro e w2 ⟨x,y,rfl,hk2⟩))
 go_ret
 exact⟨rfl,hk1.trans hk2 (fun x hx=>.inr (by simp at hx;have:=hR.base;omega))⟩
end
end Go.Proofs.YthgphmfipnjllaaGreat
