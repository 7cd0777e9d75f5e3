/-
  A part of the proof: lemmas, and contracts of functions; their conditions stand in them.
-/
import Derived.Test.YtkonbpfbjiepfaaGreatB27
import Derived.Test.YtkonbpfbjiepfaaGreatB12
namespace Go.Proofs.YtkonbpfbjiepfaaGreat
set_option linter.unusedSimpArgs false
set_option linter.unusedVariables false
set_option maxHeartbeats 1000000
set_option maxRecDepth 50000
section
open Go.RowKit
def ZL (zs:List Nat):Nat→Nat
 | 0=>0
 | k+1=>ZL zs k+zs.getD k 0*2 ^ k
theorem Xh (zs:List Nat) (h:∀ z∈zs,z≤1):∀ k,ZL zs k<2 ^ k
 | 0=>by simp [ZL]
 | k+1=>by
   have h1:=Xh zs h k
   have h2:zs.getD k 0≤1:=by
    rw [List.getD_eq_getElem?_getD]
    rcases Nat.lt_or_ge k zs.length with hk | hk
    · rw [List.getElem?_eq_getElem hk];exact h _ (List.getElem_mem hk)
    · rw [List.getElem?_eq_none hk];exact Nat.zero_le _
   have h3:zs.getD k 0*2 ^ k≤1*2 ^ k:=Nat.mul_le_mul_right _ h2
   simp only [ZL,Nat.pow_succ]
   omega
theorem YBJ {q z k:Nat} (hq:q<2 ^ k):q ||| z*2 ^ k=q+z*2 ^ k:=by
 have:=Nat.two_pow_add_eq_or_of_lt hq z
 rw [Nat.or_comm,Nat.mul_comm,← this]
 omega
theorem QAN (A:Option Addr) (n c:Nat) (zs:List Nat) (w:World) (ha:Rd w A n (ZI zs)) (h:∀ z∈zs,z≤1) (hn:n≤8) :
 Calls Tryz.prog 265 #[.slice A n c] w fun e w'=>e = .returned (.int .i64 (ZL zs n:Nat))∧w=w':=by
 have hl:zs.length=n:=by simpa using ha.1
 have HL:=KB hl
 clear hl
 have hlt:=Xh zs h
 go_enter Tryz.func265,Tryz.ntmps265
 go_wp2_with fail
 go_loopw [2,3,4,7] (fun s _ _ i wr=>∃ k:Nat,k≤n∧i = .int .i64 k∧s = .int .i64 (ZL zs k:Nat)∧w=wr) (fun _ _ _ i _=>n-(intOf i).toNat)
 case atStart=>exact ⟨0,Nat.zero_le _,rfl,rfl,rfl⟩
 case round=>
  obtain ⟨k,hk,rfl,rfl,rfl⟩:=hrel
  by_cases hlt':k<n
  · have hkl:k<zs.length:=by rw [XA HL];exact hlt'
    have hltI:((k:Nat):Int)<(n:Nat):=by omega
    obtain ⟨b,o,u,rfl,hx,hb,hc⟩:=ha.at_ hlt'
    simp only [ZI,List.getElem?_map,List.getElem?_eq_getElem hkl,Option.map_some,Option.some.injEq] at hx
    subst hx
    have hz:=h _ (List.getElem_mem hkl)
    have hq:=hlt k
    have hs:ZL zs (k+1)=ZL zs k+zs[k]*2 ^ k:=by
     simp only [ZL]
     rw [List.getD_eq_getElem?_getD,List.getElem?_eq_getElem hkl]
     rfl
    have HS:=KB hs
    clear hs
    generalize ZL zs k=q at *
    generalize zs[k]=z at *
    have h8:(2:Nat) ^ k≤256:=Nat.pow_le_pow_right (n:=2) (by omega) (show k≤8 by omega)
    have hzk:z*2 ^ k≤1*2 ^ k:=Nat.mul_le_mul_right _ hz
    have hw:wrap64 ((z:Nat)*2 ^ k:Int)=((z*2 ^ k:Nat):Int):=by
     have e:((z:Nat)*2 ^ k:Int)=((z*2 ^ k:Nat):Int):=by simp
     rw [e]
     have hyb:z*2 ^ k≤256:=by omega
     generalize z*2 ^ k=y at hyb ⊢
     unfold wrap64;omega
    have he:bits BinOp.or IntKind.i64 (q:Nat) (wrap64 ((z:Nat)*2 ^ k:Int))=((q+z*2 ^ k:Nat):Int):=by
     rw [hw,XAy q (z*2 ^ k) (by omega) (by omega),YBJ hq,IntKind.wrap_i64]
     omega
    have HE:Hid (q+z*2 ^ k=ZL zs (k+1)):=KB (XA HS).symm
    generalize q+z*2 ^ k=m at *
    clear hw hzk h8 HS hq hlt
    go_wp2_with fail
    go_roundw
    case rel=>exact ⟨k+1,by omega,by go_num,by rw [← XA HE],trivial⟩
    case measure=>simp [intOf];omega
  · obtain rfl:n=k:=by omega
    go_wp2_with fail
    go_ret
    exact ⟨rfl,rfl⟩
def YR (u:Nat×Nat):List (Nat×Nat):=[(1,u.1),(4,u.2)]
def ZBJ (r:PReg) (p:Nat) (bz oz:List Nat) (us:List (Nat×Nat)):List (Nat×Nat):=
 [(1,75),(1,67),(4,r.gen),(4,r.view),(1,r.mode),(4,r.epoch),(4,r.seq),(4,r.done),(1,r.pos.seg),(1,r.pos.off),(4,r.pos.lsn),(4,r.pos.prev),(4,r.pos.mount),(1,ZL bz p),(1,ZL oz p)]++us.flatMap YR
def ZBA (r:PReg) (p:Nat) (bz oz:List Nat) (us:List (Nat×Nat)):List UInt8:=Vh 128 (fields (ZBJ r p bz oz us))
theorem JN (l m:List (Nat×Nat)):widths (l++m)=widths l+widths m:=by
 rw [← length_fields,← length_fields,← length_fields,JF,List.length_append]
theorem Zc (us:List (Nat×Nat)):widths (us.flatMap YR)=5*us.length:=by
 induction us with
 | nil=>rfl
 | cons u us ih=>rw [List.flatMap_cons,JN,ih];simp [YR,widths];omega
theorem Yq (r:PReg) (p:Nat) (bz oz:List Nat) (us:List (Nat×Nat)):widths (ZBJ r p bz oz us)=39+5*us.length:=by
 unfold ZBJ;rw [JN,Zc];simp [widths]
theorem Yb (r:PReg) (p:Nat) (bz oz:List Nat) {us:List (Nat×Nat)} (h:us.length=8):(ZBA r p bz oz us).length=128:=JY (by omega) (by rw [length_fields,Yq];omega)
theorem JAn (w:World) (g B:Nat) (hg:GeomAt w g B) (r:PReg) (h:r.May) (BA:Option Addr) (bc:Nat) (bz:List Nat) (OA:Option Addr) (oc:Nat) (oz:List Nat) (hb:Rd w BA (pgs B) (ZI bz)) (ho:Rd w OA (pgs B) (ZI oz)) (hbz:∀ z∈bz,z≤1) (hoz:∀ z∈oz,z≤1)
 (s sc:Nat) (us:List (Nat×Nat)) (hs:Rd w (some ⟨s,0,none⟩) (8*2) (us.flatMap KX)) (hus:JP us r.pos.seg) :
 Calls Tryz.prog 175 #[.pointer (some ⟨g,0,none⟩),.agg (r.cs (.slice BA (pgs B) bc) (.slice OA (pgs B) oc) (.slice (some ⟨s,0,none⟩) 8 sc)).toArray] w fun e w'=>∃ u,e = .returned (.tuple #[u,.int .i64 0])∧w'.ownsRow w.heap.size 5 1 u 128 (bys (ZBA r (pgs B) bz oz us))∧Keep [] w w':=by
 have hpb:=(ZD hg.pos hg.few).2
 have hM:=fun W (hk:Keep [] w W)=>Zu W g B (hg.keep0 hk) r h BA bc bz OA oc oz (hb.keep hk) (ho.keep hk) hbz hoz s sc us (hs.keep hk) hus
 have hRL:=fun W (hk:Keep [] w W)=>RegionLenG_is W g B (hg.keep0 hk)
 have hB1:=fun W (hk:Keep [] w W)=>QAN BA (pgs B) bc bz W (hb.keep hk) hbz (by omega)
 have hB2:=fun W (hk:Keep [] w W)=>QAN OA (pgs B) oc oz W (ho.keep hk) hoz (by omega)
 obtain ⟨hul,huo,-⟩:=hus
 have HL:=KB hul
 obtain ⟨b1,b2,b3,b4,b5,b6,b7,b8,b9,b10,b11⟩:=h
 have hq1:=Xh bz hbz (pgs B)
 have hq2:=Xh oz hoz (pgs B)
 have h5:(2:Nat) ^ pgs B≤256:=Nat.pow_le_pow_right (n:=2) (by omega) (show pgs B≤8 by omega)
 clear hul hb ho hbz hoz
 obtain ⟨gen,view,mode,epoch,seq,done,seg,off,lsn,prev,mount⟩:=r
 simp only [PReg.cs,PPos.cs] at *
 generalize pgs B=P at *
 obtain ⟨q1,hqe1⟩:∃ q1,q1=ZL bz P:=⟨_,rfl⟩
 obtain ⟨q2,hqe2⟩:∃ q2,q2=ZL oz P:=⟨_,rfl⟩
 rw [← hqe1] at hB1 hq1
 rw [← hqe2] at hB2 hq2
 have HQ1:=KB hqe1
 have HQ2:=KB hqe2
 have hq1':q1<256:=by omega
 have hq2':q2<256:=by omega
 clear hqe1 hqe2 hq1 hq2 h5
 have hBk:=Blk.new w 177 #[.int .i64 gen,.int .i64 view,.int .i64 mode,.int .i64 epoch,.int .i64 seq,.int .i64 done,.int .i64 seg,.int .i64 off,.int .i64 lsn,.int .i64 prev,.int .i64 mount,.slice BA P bc,.slice OA P oc,.slice (some ⟨s,0,none⟩) 8 sc]
 obtain ⟨w1,hw1⟩:∃ w1,w1=(w.alloc (.cells #[.int .i64 gen,.int .i64 view,.int .i64 mode,.int .i64 epoch,.int .i64 seq,.int .i64 done,.int .i64 seg,.int .i64 off,.int .i64 lsn,.int .i64 prev,.int .i64 mount,.slice BA P bc,.slice OA P oc,.slice (some ⟨s,0,none⟩) 8 sc] 177)):=⟨_,rfl⟩
 have hk1:Keep [] w w1:=by rw [hw1];exact (Keep.refl _ _).alloc _
 rw [← hw1] at hBk
 go_enter Tryz.func175,Tryz.ntmps175
 go_wp2_with (
  (refine (hM _ ((Keep.refl _ _).alloc _)).mono ?_)
  clear hM
  rintro e w2 ⟨rfl,hk2⟩
  rw [← hw1] at hk2
  clear hw1
  have hk12:=hk1.trans0 hk2
  have hB2':=hBk.keep0 hk2)
 go_wp2_with (
  (refine (hRL _ hk12).mono ?_)
  rintro e w3 ⟨rfl,rfl⟩)
 have hN:=KBM 128 (by omega) w2
 go_wp2_with (
  (refine hN.mono ?_)
  clear hN
  rintro e w4 ⟨rr,rv,rfl,hR,hK4⟩)
 have hP:=KAX (k:=1) hR (by omega) [75,67] (by simp) (by simp) (by simp [widths]) #[.int .i64 75,.int .i64 67] rfl 2 rfl
 go_wp2_with (
  (refine hP.mono ?_)
  clear hP
  rintro e w5 ⟨rfl,hR5z,hK5⟩
  have hR5:RowZ w5 w2.heap.size rr rv 128 (fields [(1,75),(1,67)]):=by
   have h:=hR5z
   rw [List.nil_append,QL] at h
   exact h
  clear hR5z
  have hK5':=hK4.trans hK5 (fun x hx => .inr (hR.fresh x hx))
  clear hK5 hK4 hR
  have hB5:=hB2'.keep0 hK5'
  obtain ⟨c0,c1,c2,c3,c4,c5,c6,c7,c8,c9,c10,c11,c12,c13⟩:=QC hB5
  have hlt:=hB5.lt
  clear hB5)
 have hP:=KAX (k:=4) hR5 (by omega) [gen,view] (by simp;omega) (by simp) (by simp [widths]) #[.int .i64 gen,.int .i64 view] rfl 2 rfl
 go_wp2_with (
  (refine hP.mono ?_)
  clear hP
  rintro e w6 ⟨rfl,hR6z,hK6⟩
  have hR6:RowZ w6 w2.heap.size rr rv 128 (fields [(1,75),(1,67),(4,gen),(4,view)]):=by
   have h:=hR6z
   rw [QL,← JF] at h
   exact h
  clear hR6z
  have hK6':=hK5'.trans hK6 (fun x hx => .inr (hR5.fresh x hx))
  clear hK6 hK5' hR5
  clear c0 c1 c2 c3 c4 c5 c6 c7 c8 c9 c10 c11 c12 c13 hlt
  have hB6:=hB2'.keep0 hK6'
  obtain ⟨c0,c1,c2,c3,c4,c5,c6,c7,c8,c9,c10,c11,c12,c13⟩:=QC hB6
  have hlt:=hB6.lt
  clear hB6)
 have hP:=KAX (k:=1) hR6 (by omega) [mode] (by simp;omega) (by simp) (by simp [widths]) #[.int .i64 mode] rfl 1 rfl
 go_wp2_with (
  (refine hP.mono ?_)
  clear hP
  rintro e w7 ⟨rfl,hR7z,hK7⟩
  have hR7:RowZ w7 w2.heap.size rr rv 128 (fields [(1,75),(1,67),(4,gen),(4,view),(1,mode)]):=by
   have h:=hR7z
   rw [QL,← JF] at h
   exact h
  clear hR7z
  have hK7':=hK6'.trans hK7 (fun x hx => .inr (hR6.fresh x hx))
  clear hK7 hK6' hR6
  clear c0 c1 c2 c3 c4 c5 c6 c7 c8 c9 c10 c11 c12 c13 hlt
  have hB7:=hB2'.keep0 hK7'
  obtain ⟨c0,c1,c2,c3,c4,c5,c6,c7,c8,c9,c10,c11,c12,c13⟩:=QC hB7
  have hlt:=hB7.lt
  clear hB7)
 have hP:=KAX (k:=4) hR7 (by omega) [epoch,seq,done] (by simp;omega) (by simp) (by simp [widths]) #[.int .i64 epoch,.int .i64 seq,.int .i64 done] rfl 3 rfl
 go_wp2_with (
  (refine hP.mono ?_)
  clear hP
  rintro e w8 ⟨rfl,hR8z,hK8⟩
  have hR8:RowZ w8 w2.heap.size rr rv 128 (fields [(1,75),(1,67),(4,gen),(4,view),(1,mode),(4,epoch),(4,seq),(4,done)]):=by
   have h:=hR8z
   rw [QL,← JF] at h
   exact h
  clear hR8z
  have hK8':=hK7'.trans hK8 (fun x hx => .inr (hR7.fresh x hx))
  clear hK8 hK7' hR7
  clear c0 c1 c2 c3 c4 c5 c6 c7 c8 c9 c10 c11 c12 c13 hlt
  have hB8:=hB2'.keep0 hK8'
  obtain ⟨c0,c1,c2,c3,c4,c5,c6,c7,c8,c9,c10,c11,c12,c13⟩:=QC hB8
  have hlt:=hB8.lt
  clear hB8)
 have hP:=KAX (k:=1) hR8 (by omega) [seg,off] (by simp;omega) (by simp) (by simp [widths]) #[.int .i64 seg,.int .i64 off] rfl 2 rfl
 go_wp2_with (
  (refine hP.mono ?_)
  clear hP
  rintro e w9 ⟨rfl,hR9z,hK9⟩
  have hR9:RowZ w9 w2.heap.size rr rv 128 (fields [(1,75),(1,67),(4,gen),(4,view),(1,mode),(4,epoch),(4,seq),(4,done),(1,seg),(1,off)]):=by
   have h:=hR9z
   rw [QL,← JF] at h
   exact h
  clear hR9z
  have hK9':=hK8'.trans hK9 (fun x hx => .inr (hR8.fresh x hx))
  clear hK9 hK8' hR8
  clear c0 c1 c2 c3 c4 c5 c6 c7 c8 c9 c10 c11 c12 c13 hlt
  have hB9:=hB2'.keep0 hK9'
  obtain ⟨c0,c1,c2,c3,c4,c5,c6,c7,c8,c9,c10,c11,c12,c13⟩:=QC hB9
  have hlt:=hB9.lt
  clear hB9)
 have hP:=KAX (k:=4) hR9 (by omega) [lsn,prev,mount] (by simp;omega) (by simp) (by simp [widths]) #[.int .i64 lsn,.int .i64 prev,.int .i64 mount] rfl 3 rfl
 go_wp2_with (
  (refine hP.mono ?_)
  clear hP
  rintro e w10 ⟨rfl,hR10z,hK10⟩
  have hR10:RowZ w10 w2.heap.size rr rv 128 (fields [(1,75),(1,67),(4,gen),(4,view),(1,mode),(4,epoch),(4,seq),(4,done),(1,seg),(1,off),(4,lsn),(4,prev),(4,mount)]):=by
   have h:=hR10z
   rw [QL,← JF] at h
   exact h
  clear hR10z
  have hK10':=hK9'.trans hK10 (fun x hx => .inr (hR9.fresh x hx))
  clear hK10 hK9' hR9
  clear c0 c1 c2 c3 c4 c5 c6 c7 c8 c9 c10 c11 c12 c13 hlt
  have hB10:=hB2'.keep0 hK10')
 refine KA (fun w'=>w'.cell? ⟨w.heap.size,11,none⟩=some (.slice BA P bc)∧w'.cell? ⟨w.heap.size,12,none⟩=some (.slice OA P oc)) 8 [(0,false),(1,false),(2,false),(4,false),(5,false),(3,true),(6,true),(7,true)]
  (by kernel_rfl) (by kernel_rfl) (fun _ _ d _ _ h=>by cases d <;> exact h) ⟨(QC hB10.drew).2.2.2.2.2.2.2.2.2.2.2.1,(QC hB10.drew).2.2.2.2.2.2.2.2.2.2.2.2.1⟩ ?_
 simp only [PI]
 iterate 5 (refine XB ?_ (by rfl) ?_ ?_;rotate_left;(focus (rintro W ⟨hW1,hW2⟩;go_simp;try with_reducible rfl));simp only [Act.put,PU])
 have hkd:Keep [] w w10.drew:=(hk12.trans0 hK10').drew
 refine JB (by rfl) (fun K hK=>?_)
 go_wp2_with (refine (hB1 _ hkd).mono ?_;rintro e w11 ⟨rfl,rfl⟩)
 refine hK _ _ (⟨(QC hB10.drew).2.2.2.2.2.2.2.2.2.2.2.1,(QC hB10.drew).2.2.2.2.2.2.2.2.2.2.2.2.1⟩) ?_
 clear hK K
 try simp only [Act.put,PU]
 refine JB (by rfl) (fun K hK=>?_)
 go_wp2_with (refine (hB2 _ hkd).mono ?_;rintro e w11 ⟨rfl,rfl⟩)
 refine hK _ _ (⟨(QC hB10.drew).2.2.2.2.2.2.2.2.2.2.2.1,(QC hB10.drew).2.2.2.2.2.2.2.2.2.2.2.2.1⟩) ?_
 clear hK K
 try simp only [Act.put,PU]
 refine JB (by rfl) (fun K hK=>?_)
 go_wp2_with fail
 refine hK _ _ (⟨(QC (hB10.drew.keep0 ((Keep.refl _ _).alloc _))).2.2.2.2.2.2.2.2.2.2.2.1,(QC (hB10.drew.keep0 ((Keep.refl _ _).alloc _))).2.2.2.2.2.2.2.2.2.2.2.2.1⟩) ?_
 clear hK K
 try simp only [Act.put,PU]
 refine JC ?_
 have hR10':=hR10.keep0 (Keep.refl _ _).drew
 have hP:=KAX (k:=1) hR10' (by omega) [q1,q2] (by simp;omega) (by simp) (by simp [widths]) #[.int .i64 q1,.int .i64 q2] rfl 2 rfl
 go_wp2_with (
  (refine hP.mono ?_)
  clear hP
  rintro e w11 ⟨rfl,hR11z,hK11⟩
  have hR11:RowZ w11 w2.heap.size rr rv 128 (fields [(1,75),(1,67),(4,gen),(4,view),(1,mode),(4,epoch),(4,seq),(4,done),(1,seg),(1,off),(4,lsn),(4,prev),(4,mount),(1,q1),(1,q2)]):=by
   have h:=hR11z
   rw [QL,← JF] at h
   exact h
  clear hR11z
  have hK11':=hK10'.drew.trans hK11 (fun x hx => .inr (hR10.fresh x hx))
  have hB11:=hB2'.keep0 hK11'
  have c13:=(QC hB11).2.2.2.2.2.2.2.2.2.2.2.2.2
  have hlt:=hB11.lt
  clear hB1 hB2 hRL hkd hR10' hK10' hB10 hR10 hK11)
 clear c13 hlt
 go_loopw [8,74] (fun _ i wr=>∃ k:Nat,k≤8∧i = .int .i64 k∧RowZ wr w2.heap.size rr rv 128 (fields ([(1,75),(1,67),(4,gen),(4,view),(1,mode),(4,epoch),(4,seq),(4,done),(1,seg),(1,off),(4,lsn),(4,prev),(4,mount),(1,q1),(1,q2)]++(us.take k).flatMap YR))∧Keep [] w2 wr) (fun _ i _=>8-(intOf i).toNat)
 case atStart=>exact ⟨0,Nat.zero_le _,rfl,by simpa using hR11,hK11'⟩
 case round=>
  clear hB11 hK11' hR11
  obtain ⟨k,hk,rfl,hR,hK⟩:=hrel
  by_cases hlt:k<8
  · have hkl:k<us.length:=by rw [XA HL];exact hlt
    have hltI:((k:Nat):Int)<8:=by omega
    have hKw:=hk12.trans0 hK
    have hsl:s<wr.heap.size:=(XJ XF (hs.keep hKw) hkl (j:=0) (by omega)).1
    have d0:=(XJ XF (hs.keep hKw) hkl (j:=0) (by omega)).2
    have d1:=(XJ XF (hs.keep hKw) hkl (j:=1) (by omega)).2
    obtain ⟨u1,u2⟩:=huo _ (List.getElem_mem hkl)
    have hts:(us.take (k+1)).flatMap YR=(us.take k).flatMap YR++YR us[k]:=by
     rw [List.take_succ_eq_append_getElem hkl,List.flatMap_append,List.flatMap_singleton]
    have hwk:widths ([(1,75),(1,67),(4,gen),(4,view),(1,mode),(4,epoch),(4,seq),(4,done),(1,seg),(1,off),(4,lsn),(4,prev),(4,mount),(1,q1),(1,q2)]++(us.take k).flatMap YR)=39+5*k:=by
     rw [JN,Zc,List.length_take,Nat.min_eq_left (by omega)]
     simp [widths]
    have HTS:=KB hts
    clear hts
    generalize hFK:[(1,75),(1,67),(4,gen),(4,view),(1,mode),(4,epoch),(4,seq),(4,done),(1,seg),(1,off),(4,lsn),(4,prev),(4,mount),(1,q1),(1,q2)]++(us.take k).flatMap YR=FK at *
    have HFK:=KB hFK
    clear hFK
    generalize us[k]=u at *
    obtain ⟨x,y⟩:=u
    simp only [KX,List.getElem?_cons_zero,List.getElem?_cons_succ,Nat.add_zero] at d0 d1 u1 u2
    obtain ⟨wA,hwA⟩:∃ wA,wA=wr.alloc (.cells #[.int .i64 x,.int .i64 y] 212):=⟨_,rfl⟩
    have hBu:Blk wA wr.heap.size 212 #[.int .i64 x,.int .i64 y]:=by rw [hwA];exact Blk.new _ _ _
    have hsA:wr.heap.size+1=wA.heap.size:=by rw [hwA,World.size_alloc]
    have hkA:Keep [] wr wA:=by rw [hwA];exact (Keep.refl _ _).alloc _
    have hK2:=hK.trans0 hkA
    have hR2:=hR.keep0 hkA
    have hP:=KAX (k:=1) hR2 (by omega) [x] (by simp;omega) (by simp) (by simp [hwk];omega) #[.int .i64 x] rfl 1 rfl
    have HA:=KB hsA
    have HW:=KB hwA
    clear hsA hwA
    go_wp2_with fail
    rw [← XA HW,XA HA]
    refine hP.mono ?_
    clear hP
    rintro e w12 ⟨rfl,hR12,hK12⟩
    have hBu2:=hR2.x.blk hK12 hBu (by decide) (by decide)
    have e1:w12.cell? ⟨wr.heap.size,1,none⟩=some (.int .i64 y):=by simpa using hBu2.cell 1
    have hlt2:=hBu2.lt
    have hP:=KAX (k:=4) hR12 (by omega) [y] (by simp;omega) (by simp) (by simp [hwk];omega) #[.int .i64 y] rfl 1 rfl
    go_wp2_with (
     (refine hP.mono ?_)
     clear hP
     rintro e w13 ⟨rfl,hR13,hK13⟩)
    go_roundw
    case rel=>
     refine ⟨k+1,by omega,by go_num,?_,(hK2.trans hK12 (fun x hx => .inr (hR2.fresh x hx))).trans hK13 (fun x hx => .inr (hR12.fresh x hx))⟩
     rw [XA HTS,← List.append_assoc,XA HFK,JF]
     simpa [fields,YR] using hR13
    case measure=>simp [intOf];omega
  · obtain rfl:8=k:=by omega
    have hfin:[(1,75),(1,67),(4,gen),(4,view),(1,mode),(4,epoch),(4,seq),(4,done),(1,seg),(1,off),(4,lsn),(4,prev),(4,mount),(1,q1),(1,q2)]++(us.take 8).flatMap YR=ZBJ ⟨gen,view,mode,epoch,seq,done,⟨seg,off,lsn,prev,mount⟩⟩ P bz oz us:=by
     rw [List.take_of_length_le (by rw [XA HL];omega),XA HQ1,XA HQ2]
     rfl
    rw [hfin] at hR
    clear hfin
    have hB:=JAl hR
    go_wp2_with (refine hB.mono ?_;clear hB;rintro e w12 ⟨u,rfl,hu,hk2⟩)
    have hS:=XBI hu (by omega) (by rw [length_fields,Yq,XA HL];omega) (by omega)
    go_wp2_with (refine hS.mono ?_;clear hS;rintro e w13 ⟨rfl,hu3,hk3⟩)
    go_ret2
    have hKw:=hk12.trans0 hK
    exact ⟨u,rfl,YC hu3 hKw.size,(hKw.trans0 hk2).trans hk3 (fun x hx => .inr (Nat.le_trans hKw.size (own_mem hu hx).1))⟩
end
section
open Go.RowKit
theorem VAq (k:Nat):le k 0=List.replicate k 0:=by
 induction k with
 | zero=>rfl
 | succ k ih=>rw [le_succ,ih,Nat.zero_div,List.replicate_succ'];rfl
theorem JAD (j:Nat):fields (List.replicate j (4,0))=List.replicate (4*j) 0:=by
 induction j with
 | zero=>rfl
 | succ j ih=>rw [List.replicate_succ,fields,ih,VAq,List.replicate_append_replicate];congr 1;omega
theorem QAh {N j:Nat} {H:List UInt8} (h:H.length+j≤N-4):Vh N (H++List.replicate j 0)=Vh N H:=by
 have:Ji (N-4) (H++List.replicate j 0)=Ji (N-4) H:=by
  unfold Ji
  rw [List.append_assoc,List.replicate_append_replicate,List.length_append,List.length_replicate]
  congr 2
  omega
 unfold Vh
 rw [this]
theorem XAg (zs:List Int) (j:Nat) (h:zs.length+j≤15):XS (zs++List.replicate j 0)=XS zs:=by
 have e:VS (zs++List.replicate j 0)=VS zs++List.replicate j (4,0):=by simp [VS,QAF]
 unfold XS
 rw [e,JF,JAD,QAh]
 rw [length_fields,KQ]
 omega
def Zj (n:Nat) (x:Int):List Int:=List.replicate n x++List.replicate (15-n) 0
theorem Yw {n:Nat} (x:Int) (h:n≤15):(Zj n x).length=15:=by simp [Zj];omega
theorem XAL {n:Nat} (x:Int) (h:n≤15):XS (List.replicate n x)=XS (Zj n x):=(XAg _ _ (by simp;omega)).symm
theorem VAF {n:Nat} (x:Int):(Zj n x).take n=List.replicate n x:=by simp [Zj]
end
end Go.Proofs.YtkonbpfbjiepfaaGreat
