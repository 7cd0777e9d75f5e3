/- Lemmas of the proof, with their conditions. -/
import Derived.Test.YtkonbpfbjiepfaaGreatT31
namespace Go.Proofs.YtkonbpfbjiepfaaGreat
set_option linter.unusedSimpArgs false
set_option linter.unusedVariables false
set_option maxHeartbeats 8000000
set_option maxRecDepth 50000
section
open Go.RowKit Go.Shelf
def XS (D:PDisk) (l:List (Nat×List UInt8)):PDisk:=l.foldl (fun D p=>Ka D p.1 p.2 (p.2.length / 64)) D
theorem Qu (D:PDisk) (l m:List (Nat×List UInt8)):XS D (l++m)=XS (XS D l) m:=List.foldl_append ..
def reg0:PReg:=⟨1,1,1,0,0,0,⟨0,0,1,0,1⟩⟩
def us0:List (Nat×Nat):=(1,0) :: List.replicate 7 (0,0)
def Vm (B:Nat):List UInt8:=QAv reg0 (pgs B) (List.replicate (pgs B) 0) (List.replicate (pgs B) 0) us0
def Vk (B:Nat):List (Nat×List UInt8):=
 ((ZY 0 0 B (pgs B)++ZY (pgs B) (-1) B (pgs B))++[(2,Vm B),(4,List.replicate 128 0)])++[(0,List.replicate 64 0),(1,QAG B 1 1)]
def JAs (n B:Nat):PDisk:=(XS (PDisk.new n) (Vk B)).flush
theorem KAg (w:World) (base d n B:Nat) (F:List Nat) (hB1:1≤B) (hB2:B≤64) (hn:n=198+4*pgs B) (h:DiskAt w base d F (PDisk.new n)) (hbase:base≤w.heap.size) :
 Calls Tryz.prog 100 #[.pointer (some ⟨d,0,none⟩),.agg #[.int .i64 B,.int .i64 8,.int .i64 24],.int .i64 1] w fun e w'=>e=.returned (.tuple #[.int .i64 1,.int .i64 0]) ∧
  ∃ F' D,DiskAt w' base d F' D∧D=JAs n B∧D.n=n∧D.off=false∧D.fuse = -1∧D.acts≤200∧D.faults=List.replicate n false∧Keep F w w'∧Grow w F F':=by
 have hG:=fun W=>Xf W B hB1 hB2;have hSD:∀ W,Keep [] w W→Calls Tryz.prog 171 #[.pointer (some ⟨d,0,none⟩)] W fun e w'=>e=.returned (.int .i64 (n:Nat))∧W=w':=fun W (hk:Keep [] w W)=>JZ W base d F (PDisk.new n) (h.keep0 hk);have hbC:=Blk.new w 27 #[.int .i64 B,.int .i64 8,.int .i64 24];have hSu:=fun W (hk:Keep [] w W)=>Jy W base d F n (by omega) (h.keep0 hk);have hSE:∀ W,Calls Tryz.prog 174 #[.agg #[.int .i64 B,.int .i64 8,.int .i64 24,.int .i64 1,.int .i64 1]] W fun e w'=>∃ u,e=.returned (.tuple #[u,.int .i64 0])∧w'.ownsRow W.heap.size 5 1 u 64 (bys (QAG B 1 1))∧Keep [] W w':=fun W=>KAF B 1 1 hB1 hB2 (by omega) (by omega) W;have hmay:PReg.May ⟨1,1,1,0,0,0,⟨0,0,1,0,1⟩⟩:=by simp[PReg.May,PPos.May]
 have hpb:=YC hB1 hB2
 go_enter Tryz.func100,Tryz.ntmps100
 go_wp2_with (first
  | (go_at_call 101
     refine(hG _).mono ?_;clear hG;rintro e w1 ⟨g,rfl,hg,hgb,hk1⟩;have hSG:=SectorsG_is w1 g B hg;rw[← hn] at hSG;replace hbC:=hbC.keep0 hk1
     have hkc:Keep [] w w1:=((Keep.refl _ _).alloc _).trans0 hk1)
  | (go_at_call 171;refine(hSD _ hkc).mono ?_;clear hSD;rintro e w' ⟨rfl,rfl⟩)
  | (go_at_call 75
     refine hSG.mono ?_;clear hSG;rintro e w2 ⟨rfl,hk2⟩;replace hkc:=hkc.trans0 hk2;replace hg:=hg.keep0 hk2
     replace hbC:=hbC.keep0 hk2)
  | (go_at_call 172
     refine(hSu _ hkc).mono ?_;clear hSu;rintro e w3 ⟨A0,c0,A1,c1,rfl,hu0,hu1,hk3⟩;replace hkc:=hkc.trans0 hk3;replace hg:=hg.keep0 hk3;replace hbC:=hbC.keep0 hk3
     have hSC:=Qq A0 A1 c0 c1 _ ((Rd.of_own hu0).keep ((Keep.refl _ _).alloc (.cells #[.slice A0 64 c0,.slice A1 64 c1] 254))) ((Rd.of_own hu1).keep ((Keep.refl _ _).alloc (.cells #[.slice A0 64 c0,.slice A1 64 c1] 254))))
  | (go_at_call 173
     refine hSC.mono ?_;clear hSC;rintro e w4 ⟨rfl,hk4⟩;replace hkc:=hkc.trans0 (((Keep.refl _ _).alloc _).trans0 hk4);replace hg:=hg.keep0 (((Keep.refl _ _).alloc _).trans0 hk4);replace hbC:=hbC.keep0 (((Keep.refl _ _).alloc _).trans0 hk4);obtain⟨k0,k1,k2⟩:w4.cell? ⟨w.heap.size,0,none⟩=some (.int .i64 B)∧w4.cell? ⟨w.heap.size,1,none⟩=some (.int .i64 8)∧w4.cell? ⟨w.heap.size,2,none⟩=some (.int .i64 24):=⟨by simpa using hbC.cell 0,by simpa using hbC.cell 1,by simpa using hbC.cell 2⟩
     have hltC:=hbC.lt)
  | (go_at_call 174
     refine(hSE _).mono ?_;clear hSE;rintro e w5 ⟨su,rfl,hsu,hk5⟩;have hsl:=length_supB B 1 1;obtain⟨sbs,hsb⟩:∃ s,s=QAG B 1 1:=⟨_,rfl⟩;rw[← hsb] at hsu hsl;have HSB:=XC hsb;clear hsb;obtain⟨SUA,suc,rfl,_⟩:=JB hsu;replace hsu:=KB hsu (hkc.alloc _).size;replace hkc:=(hkc.alloc _).trans0 hk5;replace hg:=hg.keep0 (((Keep.refl _ _).alloc _).trans0 hk5)
     have hFi:Calls Tryz.prog 102 #[.pointer (some ⟨g,0,none⟩),.int .i64 1] w5 _:=Zv w5 g B hg 1)
  | (go_at_call 102
     refine hFi.mono ?_;clear hFi;rintro e w6 ⟨SA,sc,UA,uc,rfl,hS6,hU6,hk6⟩;replace hkc:=hkc.trans0 hk6;replace hg:=hg.keep0 hk6;replace hsu:=QB hsu hk6
     have hRE:=XAd w6 g B hg _ hmay SA sc (List.replicate (pgs B) 0) SA sc (List.replicate (pgs B) 0) (Rd.of_own hS6) (Rd.of_own hS6) (fun z hz=>by rw[List.eq_of_mem_replicate hz];omega) (fun z hz=>by rw[List.eq_of_mem_replicate hz];omega) UA uc _ (Rd.of_ownN hU6) segsOk_first)
  | (go_at_call 175
     refine hRE.mono ?_;clear hRE hS6 hU6;rintro e w7 ⟨ru,rfl,hru,hk7⟩;have hrl:(Vm B).length=128:=ZZ _ _ _ _ rfl;replace hru:w7.ownsRow w6.heap.size 5 1 ru 128 (bys (Vm B)):=hru;obtain⟨rbs,hrb⟩:∃ s,s=Vm B:=⟨_,rfl⟩;rw[← hrb] at hru hrl;have HRB:=XC hrb;clear hrb;obtain⟨RUA,ruc,rfl,_⟩:=JB hru;replace hru:=KB hru hkc.size;replace hkc:=hkc.trans0 hk7;replace hg:=hg.keep0 hk7;replace hsu:=QB hsu hk7
     have hBl:=JAL w7 g B hg false)
  | (go_at_call 177
     refine hBl.mono ?_;clear hBl;rintro e w8 ⟨v8,ps8,rfl,hv8,hl8,hp8,hm8,hk8⟩;have HM8:=XC hm8;clear hm8;have hal8:∀ q∈ps8,PtOk w8 w.heap.size n q:=fun q hq=>⟨1,by omega,by omega,(hp8 q hq).1,by have:=(hp8 q hq).2.1;omega,KB (hp8 q hq).2.2 hkc.size⟩;replace hv8:=KB hv8 hkc.size;replace hkc:=hkc.trans0 hk8;replace hg:=hg.keep0 hk8;replace hsu:=QB hsu hk8;replace hru:=QB hru hk8
     have hBm:=JAL w8 g B hg true)
  | (go_at_call 177
     refine hBm.mono ?_;clear hBm;rintro e w9 ⟨v9,ps9,rfl,hv9,hl9,hp9,hm9,hk9⟩;have HM9:=XC hm9;clear hm9
     have hal9:∀ q∈ps8++ps9,PtOk w9 w.heap.size n q:=fun q hq=>by
      rcases List.mem_append.1 hq with hq | hq
      · exact(hal8 q hq).map (fun h=>QB h hk9)
      · exact⟨1,by omega,by omega,(hp9 q hq).1,by have:=(hp9 q hq).2.1;omega,KB (hp9 q hq).2.2 hkc.size⟩
     have hl89:(ps8++ps9).length=pgs B+pgs B:=by rw[List.length_append,hl8,hl9]
     replace hkc:=hkc.trans0 hk9;replace hg:=hg.keep0 hk9;replace hsu:=QB hsu hk9;replace hru:=QB hru hk9;replace hv8:=QB hv8 hk9;obtain⟨A8,c8,e8,hc8,hc8'⟩:=QD hv8 (by omega);obtain⟨A9,c9,e9,hc9,hc9'⟩:=QD hv9 (by omega);rw[hl8] at e8 hc8 hv8;rw[hl9] at e9 hc9 hv9;subst e8;subst e9
     have hCc:=Qr (some ⟨w9.heap.size,0,none⟩) 2 2 [(.slice (some ⟨A8,0,none⟩) (pgs B) c8,pgs B,ps8.flatMap ptc),(.slice (some ⟨A9,0,none⟩) (pgs B) c9,pgs B,ps9.flatMap ptc)] (w9.alloc (.cells #[.slice (some ⟨A8,0,none⟩) (pgs B) c8,.slice (some ⟨A9,0,none⟩) (pgs B) c9] 263))
      ⟨Rd.of_blk (n:=2) (Blk.new w9 263 #[.slice (some ⟨A8,0,none⟩) (pgs B) c8,.slice (some ⟨A9,0,none⟩) (pgs B) c9]) (by simp),fun q hq=>by
        simp only[List.mem_cons,List.not_mem_nil,or_false] at hq;rcases hq with rfl | rfl
        · exact⟨⟨⟨A8,0,none⟩,c8,rfl,hc8,(Rd.of_ownN hv8).keep ((Keep.refl _ _).alloc _)⟩,Xi _ _ ps8 (fun q hq=>⟨_,(hp8 q hq).2.2⟩),by show pgs B≤1000;omega⟩
        · exact⟨⟨⟨A9,0,none⟩,c9,rfl,hc9,(Rd.of_ownN hv9).keep ((Keep.refl _ _).alloc _)⟩,Xi _ _ ps9 (fun q hq=>⟨_,(hp9 q hq).2.2⟩),by show pgs B≤1000;omega⟩⟩ (by simp[Zh];omega) (by simp[Zh];omega) (by omega))
  | (go_at_call 176
     refine hCc.mono ?_;clear hCc;rintro e w10 ⟨u10,rfl,hu10,hk10⟩;have hN2:Zh [(Value.slice (some ⟨A8,0,none⟩) (pgs B) c8,pgs B,ps8.flatMap ptc),(.slice (some ⟨A9,0,none⟩) (pgs B) c9,pgs B,ps9.flatMap ptc)]=2*pgs B:=by simp[Zh];omega
     have hV2:JAj [(Value.slice (some ⟨A8,0,none⟩) (pgs B) c8,pgs B,ps8.flatMap ptc),(.slice (some ⟨A9,0,none⟩) (pgs B) c9,pgs B,ps9.flatMap ptc)]=(ps8++ps9).flatMap ptc:=by simp[JAj]
     rw[hN2,hV2] at hu10;clear hN2 hV2;obtain⟨m10,hm10⟩:∃ m,m=2*pgs B:=⟨_,rfl⟩;rw[← hm10] at hu10;have hm10':m10≤10:=by omega
     have HM10:=XC hm10;clear hm10;replace hu10:=KB hu10 (hkc.alloc _).size;obtain⟨UA10,uc10,rfl,_⟩:=JB hu10;have hk9A:=((Keep.refl [] w9).alloc (.cells #[.slice (some ⟨A8,0,none⟩) (pgs B) c8,.slice (some ⟨A9,0,none⟩) (pgs B) c9] 263)).trans0 hk10;replace hkc:=hkc.trans0 hk9A;have hal10:∀ q∈ps8++ps9,PtOk w10 w.heap.size n q:=fun q hq=>(hal9 q hq).map (fun h=>QB h hk9A);replace hg:=hg.keep0 hk9A;replace hsu:=QB hsu hk9A;replace hru:=QB hru hk9A;have hR0:Calls Tryz.prog 178 #[.pointer (some ⟨g,0,none⟩),.int .i64 0] w10 fun e w'=>e=.returned (.int .i64 2)∧w10=w':=VN w10 g B hg 0 (by omega);have hR1:Calls Tryz.prog 178 #[.pointer (some ⟨g,0,none⟩),.int .i64 1] w10 fun e w'=>e=.returned (.int .i64 4)∧w10=w':=VN w10 g B hg 1 (by omega)
     have hRL:=RegionLenG_is w10 g B hg)
  | (go_at_call 178;refine hR0.mono ?_;clear hR0;rintro e w' ⟨rfl,rfl⟩)
  | (go_at_call 178;refine hR1.mono ?_;clear hR1;rintro e w' ⟨rfl,rfl⟩)
  | (go_at_call 133;refine hRL.mono ?_;clear hRL;rintro e w' ⟨rfl,rfl⟩)
  | (at_make
     refine elem8N.wp_make rfl _ _ rfl .i64 .i64 128 rfl rfl (by omega) (by omega) ?_;intro w11 g11 hg11 hs11 hb11 hk11;obtain rfl:g11=w10.heap.size:=hg11
     clear hs11)
  | (at_builtin
     refine elemPart.wp_app rfl (.tmp 93) (.tmp 105) rfl w.heap.size (.slice UA10 m10 uc10) m10 ((ps8++ps9).flatMap ptc) rfl (VC (QB hu10 hk11) _) ⟨w11.heap.size,0,none⟩ 2 2 [.int .i64 2,.slice RUA 128 ruc,.int .i64 4,.slice (some ⟨w10.heap.size,0,none⟩) 128 128] rfl (by
      have:=Rd.of_blk (n:=4) (Blk.new w11 266 #[.int .i64 2,.slice RUA 128 ruc,.int .i64 4,.slice (some ⟨w10.heap.size,0,none⟩) 128 128]) (by simp);exact this) (by simp[Value.oneCell']) (by omega) (by omega) (Nat.le_trans hkc.size (Nat.le_trans hk11.size (by simp))) ?_
     intro v12 w12 hv12 hk12 _ _;have hkB12:Keep [] w10 (w11.alloc (.cells #[.int .i64 2,.slice RUA 128 ruc,.int .i64 4,.slice (some ⟨w10.heap.size,0,none⟩) 128 128] 266)):=hk11.alloc _;have hst:∀ {q:Value} {n:Nat} {ys:List Value},w11.ownsRow w.heap.size 5 1 q n ys→w12.ownsRow w.heap.size 5 1 q n ys:=fun hq=>XB (VC hq _) hk12 (fun x hx hm=>own_ne (VC hq _) (QB hu10 hkB12) (by decide) hx (by simpa using hm));have hz11:w11.ownsRow w.heap.size 5 1 (.slice (some ⟨w10.heap.size,0,none⟩) 128 128) 128 (bys (List.replicate 128 0)):=XJ (e:=5) (s:=1) (z:=.int .u8 0) hb11 (by omega) hkc.size (by omega) (by simp[bys,by8]) rfl;have hsu12:=hst (QB hsu hk11);obtain⟨ps12,hps12⟩:∃ ps,ps=(ps8++ps9)++[⟨2,.slice RUA 128 ruc,rbs⟩,⟨4,.slice (some ⟨w10.heap.size,0,none⟩) 128 128,List.replicate 128 0⟩]:=⟨_,rfl⟩;have hl12:ps12.length=m10+2:=by rw[hps12,List.length_append,hl89,JA HM10];simp;omega
     have hal12:∀ q∈ps12,PtOk w12 w.heap.size n q:=fun q hq=>by
      rw[hps12] at hq;simp only[List.mem_append,List.mem_cons,List.not_mem_nil,or_false] at hq;rcases hq with hq | rfl | rfl
      · exact(hal10 q (by simpa using hq)).map (fun h=>hst (QB h hk11))
      · exact⟨2,by omega,by omega,hrl,by simp only;omega,hst (QB hru hk11)⟩
      · exact⟨2,by omega,by omega,by simp,by simp only;omega,hst hz11⟩
     replace hv12:w12.ownsRow w.heap.size 266 2 v12 (m10+2) (ps12.flatMap ptc):=by rw[hps12,List.flatMap_append];exact hv12
     have hkc12:Keep [] w w12:=(hkc.trans0 hkB12).trans hk12 (fun x hx=>.inr (own_mem hu10 hx).1);obtain⟨UA12,uc12,rfl,_⟩:=JB hv12))
 have HPS:=XC hps12;clear hps12 hst hz11 hal10 hal9 hal8 hp8 hp9 hru hsu hv8 hv9 hu10 hl89 hl8 hl9 hk11 hk12 hb11;have hmk:∀ W:World,(Instr.makeSlice 39 (.int .i64 64) (.int .i64 64)).run Tryz.prog W=.ok (.slice (some ⟨W.heap.size,0,none⟩) 64 64) (W.alloc (.cells (Array.replicate 64 (.int .u8 0)) 5)):=fun W=>elem8.run_make .i64 .i64 64 64 (by omega) (by omega) (by omega) W;have hS0:∀ W,Calls Tryz.prog 179 #[.pointer (some ⟨g,0,none⟩),.int .i64 0] W fun e w'=>e=.returned (.int .i64 0)∧W=w':=fun W=>YV W g 0 (by omega);have hS1:∀ W,Calls Tryz.prog 179 #[.pointer (some ⟨g,0,none⟩),.int .i64 1] W fun e w'=>e=.returned (.int .i64 1)∧W=w':=fun W=>YV W g 1 (by omega);refine ZR (fun _=>True) 15 (.held 0 (.held 1 (.held 2 (.held 3 (.held 4 (.held 8 (.held 9 (.held 10 (.held 12 (.two 5 (.two 6 (.held 7 (.loud 11 (.held 13 (.loud 14 .nil)))) 11 (.held 13 (.loud 6 (.held 7 (.loud 14 .nil))))) 6 (.loud 5 (.held 7 (.loud 11 (.held 13 (.loud 14 .nil))))))))))))))) trivial ?_;simp only[RT.pick,PJ]
 iterate 9 (refine ZK ?_;simp only[Act.put,PU])
 refine @QBD ?R _ (fun hR=>?_) ?_;rotate_left
 · refine wpR_two ?_ ?_
   · refine wpR_loud (by rfl) (fun K hK=>?_)
     go_wp2_with (refine(hS0 _).mono ?_;rintro e w' ⟨rfl,rfl⟩)
     refine hK _ _ (trivial) ?_;clear hK K
     try simp only[Act.put,PU]
     refine wpR_two ?_ ?_
     · refine wpR_loud (by rfl) (fun K hK=>?_)
       have hmk0:=hmk w12.drew
       go_wp2_with fail
       refine hK _ _ (trivial) ?_;clear hK K
       try simp only[Act.put,PU]
       iterate 1 (refine ZK ?_;simp only[Act.put,PU])
       refine wpR_loud (by rfl) (fun K hK=>?_)
       go_wp2_with (refine(hS1 _).mono ?_;rintro e w' ⟨rfl,rfl⟩)
       refine hK _ _ (trivial) ?_;clear hK K
       try simp only[Act.put,PU]
       iterate 1 (refine ZK ?_;simp only[Act.put,PU])
       refine wpR_loud (by rfl) (fun K hK=>?_)
       go_wp2_with fail
       refine hK _ _ (trivial) ?_;clear hK K
       try simp only[Act.put,PU]
       refine wpR_nil ?_;exact hR
     · refine wpR_loud (by rfl) (fun K hK=>?_)
       go_wp2_with (refine(hS1 _).mono ?_;rintro e w' ⟨rfl,rfl⟩)
       refine hK _ _ (trivial) ?_;clear hK K
       try simp only[Act.put,PU]
       iterate 1 (refine ZK ?_;simp only[Act.put,PU])
       refine wpR_loud (by rfl) (fun K hK=>?_);have hmk0:=hmk w12.drew
       go_wp2_with fail
       refine hK _ _ (trivial) ?_;clear hK K
       try simp only[Act.put,PU]
       iterate 1 (refine ZK ?_;simp only[Act.put,PU])
       refine wpR_loud (by rfl) (fun K hK=>?_)
       go_wp2_with fail
       refine hK _ _ (trivial) ?_;clear hK K
       try simp only[Act.put,PU]
       refine wpR_nil ?_;exact hR
   · refine wpR_loud (by rfl) (fun K hK=>?_)
     have hmk0:=hmk w12.drew
     go_wp2_with fail
     refine hK _ _ (trivial) ?_;clear hK K
     try simp only[Act.put,PU]
     refine wpR_loud (by rfl) (fun K hK=>?_)
     go_wp2_with (refine(hS0 _).mono ?_;rintro e w' ⟨rfl,rfl⟩)
     refine hK _ _ (trivial) ?_;clear hK K
     try simp only[Act.put,PU]
     iterate 1 (refine ZK ?_;simp only[Act.put,PU])
     refine wpR_loud (by rfl) (fun K hK=>?_)
     go_wp2_with (refine(hS1 _).mono ?_;rintro e w' ⟨rfl,rfl⟩)
     refine hK _ _ (trivial) ?_;clear hK K
     try simp only[Act.put,PU]
     iterate 1 (refine ZK ?_;simp only[Act.put,PU])
     refine wpR_loud (by rfl) (fun K hK=>?_)
     go_wp2_with fail
     refine hK _ _ (trivial) ?_;clear hK K
     try simp only[Act.put,PU]
     refine wpR_nil ?_;exact hR
 have hz13:(w12.alloc (.cells (Array.replicate 64 (.int .u8 0)) 5)).ownsRow w.heap.size 5 1 (.slice (some ⟨w12.heap.size,0,none⟩) 64 64) 64 (bys (List.replicate 64 0)):=
  ZM (Blk.new w12 5 _) hkc12.size (by omega) (by simp) (by simp[bys,by8])
 have hb14:Blk (((w12.alloc (.cells (Array.replicate 64 (.int .u8 0)) 5)).alloc (.cells #[.int .i64 0,.slice (some ⟨w12.heap.size,0,none⟩) 64 64,.int .i64 1,.slice SUA 64 suc] 266)).drew) (w12.heap.size+1) 266 #[.int .i64 0,.slice (some ⟨w12.heap.size,0,none⟩) 64 64,.int .i64 1,.slice SUA 64 suc]:=by
  have:=Blk.new (w12.alloc (.cells (Array.replicate 64 (.int .u8 0)) 5)) 266 #[.int .i64 0,.slice (some ⟨w12.heap.size,0,none⟩) 64 64,.int .i64 1,.slice SUA 64 suc];rw[show (w12.alloc (.cells (Array.replicate 64 (.int .u8 0)) 5)).heap.size=w12.heap.size+1 by simp] at this;exact this.drew
 have hk14:Keep [] w12 (((w12.alloc (.cells (Array.replicate 64 (.int .u8 0)) 5)).alloc (.cells #[.int .i64 0,.slice (some ⟨w12.heap.size,0,none⟩) 64 64,.int .i64 1,.slice SUA 64 suc] 266)).drew):=(((Keep.refl _ _).alloc _).alloc _).drew;have hz14:=(VC hz13 (.cells #[.int .i64 0,.slice (some ⟨w12.heap.size,0,none⟩) 64 64,.int .i64 1,.slice SUA 64 suc] 266)).drew;have hs14:w12.heap.size+2=(((w12.alloc (.cells (Array.replicate 64 (.int .u8 0)) 5)).alloc (.cells #[.int .i64 0,.slice (some ⟨w12.heap.size,0,none⟩) 64 64,.int .i64 1,.slice SUA 64 suc] 266)).drew).heap.size:=by simp
 generalize (((w12.alloc (.cells (Array.replicate 64 (.int .u8 0)) 5)).alloc (.cells #[.int .i64 0,.slice (some ⟨w12.heap.size,0,none⟩) 64 64,.int .i64 1,.slice SUA 64 suc] 266)).drew)=w14 at *;have hrd14:Rd w14 (some ⟨w12.heap.size+1,0,none⟩) 4 [.int .i64 0,.slice (some ⟨w12.heap.size,0,none⟩) 64 64,.int .i64 1,.slice SUA 64 suc]:=Rd.of_blk (n:=4) hb14 (by simp);have hs14':w12.heap.size+1<w14.heap.size:=by omega
 clear hb14 hz13 hmk hs14;refine elemPart.wp_app rfl (.tmp 107) (.tmp 121) rfl w.heap.size (.slice UA12 (m10+2) uc12) (m10+2) (ps12.flatMap ptc) rfl (QB hv12 hk14) ⟨w12.heap.size+1,0,none⟩ 2 2 [.int .i64 0,.slice (some ⟨w12.heap.size,0,none⟩) 64 64,.int .i64 1,.slice SUA 64 suc] rfl hrd14 (by simp[Value.oneCell']) (by omega) (by omega) (Nat.le_trans hkc12.size hk14.size) ?_;intro v15 w15 hv15 hk15 _ _;have hst:∀ {q:Value} {n:Nat} {ys:List Value},w14.ownsRow w.heap.size 5 1 q n ys→w15.ownsRow w.heap.size 5 1 q n ys:=fun hq=>XB hq hk15 (fun x hx hm=>own_ne hq (QB hv12 hk14) (by decide) hx (by simpa using hm));obtain⟨ps,hps⟩:∃ ps,ps=ps12++[⟨0,.slice (some ⟨w12.heap.size,0,none⟩) 64 64,List.replicate 64 0⟩,⟨1,.slice SUA 64 suc,sbs⟩]:=⟨_,rfl⟩
 have HMP:Hid (ps.map JAy=Vk B):=XC (by
  rw[hps,JA HPS,List.map_append,List.map_append,List.map_append,JA HM8,JA HM9];simp only[List.map_cons,List.map_nil,JAy,JA HRB,JA HSB];rfl)
 have hlp:ps.length=m10+2+2:=by rw[hps,List.length_append,hl12];rfl
 have hal:∀ q∈ps,PtOk w15 w.heap.size n q:=fun q hq=>by
  rw[hps] at hq;simp only[List.mem_append,List.mem_cons,List.not_mem_nil,or_false] at hq;rcases hq with hq | rfl | rfl
  · exact(hal12 q hq).map (fun h=>hst (QB h hk14))
  · exact⟨1,by omega,by omega,by simp,by simp only;omega,hst hz14⟩
  · exact⟨1,by omega,by omega,hsl,by simp only;omega,hst (QB hsu12 hk14)⟩
 replace hv15:w15.ownsRow w.heap.size 266 2 v15 (m10+2+2) (ps.flatMap ptc):=by rw[hps,List.flatMap_append];exact hv15
 have hkc15:Keep [] w w15:=(hkc12.trans0 hk14).trans hk15 (fun x hx=>.inr (own_mem hv12 hx).1);obtain⟨UA15,uc15,rfl,_⟩:=JB hv15;obtain⟨M,hM⟩:∃ M,M=m10+2+2:=⟨_,rfl⟩;rw[← hM] at hv15 hlp ⊢;have hM14:M≤14:=by omega
 obtain⟨vb,vc,ev,hvc,hvc63⟩:=QD hv15 (by omega);injection ev with ev1 _ ev3;subst ev1 ev3;have hd15:=h.keep0 hkc15;have hFlt:∀ x∈F,x<w.heap.size:=h.lt;have hsz15:=hkc15.size;clear HM8 HM9 HRB HSB;clear hst hps HPS hal12 hk14 hz14 hrd14 hs14' hk15 hkc12 hv12 hl12 hsu12 hsl hS0 hS1 hg hkc HM10 hm10' hM hgb hbC hmay h hrl hltC hkB12 k0 k1 k2;clear hk1 hk2 hk3 hk4 hk5 hk6 hk7 hk8 hk9 hk10 hk9A hu0 hu1 hc8 hc9 hc8' hc9'
 go_wp2_with fail
 go_loopw [6,7,17,18,125] (fun mo eo _ _ i wr=>∃ (k:Nat) (F':List Nat) (D:PDisk),k≤M∧i=.int .i64 (k:Nat)∧mo=.int .i64 1∧eo=.int .i64 0∧DiskAt wr base d F' D∧Hid (D=XS (PDisk.new n) ((ps.take k).map JAy))∧D.n=n∧D.off=false∧D.fuse = -1∧D.acts≤2*k∧D.faults=List.replicate n false∧(∀ x∈F',x∈F∨w15.heap.size≤x)∧Keep F w15 wr) (fun _ _ _ _ i _=>M-(intOf i).toNat)
 case atStart=>exact⟨0,F,PDisk.new n,Nat.zero_le _,rfl,rfl,rfl,hd15,rfl,rfl,rfl,rfl,Nat.zero_le _,rfl,fun x hx=>.inl hx,Keep.refl _ _⟩
 case round=>
  obtain⟨k,F',D,hk,rfl,rfl,rfl,hdr,hDL,hDn,hDo,hDf,hDa,hDl,hFr,hkr⟩:=hrel;have hvr:=XB hv15 hkr (fun x hx hm=>by have:=hFlt x hm;have:=own_mem hv15 (g:=x) (by simpa using hx);omega)
  by_cases hlt:k<M
  · have hltI:((k:Nat):Int)<(M:Nat):=by omega
    have hkl:k<ps.length:=by rw[hlp];exact hlt
    have hx0:wr.cell? ⟨vb,k*2,none⟩=some (.int .i64 (ps[k].a:Nat)):=ZF hvr (by rw[show k*2=k*2+0 from rfl,YH VX ps k 0 hkl (by omega)];rfl);have hx1:wr.cell? ⟨vb,k*2+1,none⟩=some ps[k].v:=ZF hvr (by rw[YH VX ps k 1 hkl (by omega)];rfl);obtain⟨kk,hkk1,hkk2,hbl,han,hdat⟩:=hal ps[k] (List.getElem_mem _);have htk:Hid (ps.take (k+1)=ps.take k++[ps[k]]):=XC (List.take_succ_eq_append_getElem hkl);generalize ps[k]=q at *;obtain⟨qa,qv,qb⟩:=q;simp only at hx0 hx1 hbl han hdat;obtain⟨qg,qc,rfl,hqc⟩:=KF hdat (by omega);have hqm:=own_mem hdat (g:=qg) (by simp[Value.ownBlock]);have hdatr:=XB hdat hkr (fun x hx hm=>by have:=hFlt x hm;have:=own_mem hdat (g:=x) (by simpa using hx);omega);have hLy:=KAb (wr.alloc (.cells #[.int .i64 (qa:Nat),.slice (some ⟨qg,0,none⟩) (64*kk) qc] 266)) base d F' D (hdr.keep0 ((Keep.refl _ _).alloc _)) hDo hDf (by have:=hkr.size;simp;omega) qa kk qg 0 qc qb hkk1 (by omega) hbl hqc (by omega) (by omega) ((Rd.of_own hdatr).keep ((Keep.refl _ _).alloc _)) (by have:=hkr.size;simp;omega) (fun hm=>by rcases hFr _ hm with h | h;(have:=hFlt _ h;omega);omega);have hlv:=Vi hvr
    go_wp2_with (go_at_call 180
                 refine hLy.mono ?_;clear hLy;rintro e w17 ⟨rfl,F2,hd2,hk2,hg2⟩)
    go_roundw
    case rel=>
     obtain⟨l1,l2,l3,l4,l5,_⟩:=QK D qa qb kk;refine⟨k+1,F2,_,by omega,by go_num,rfl,rfl,hd2,XC (by rw[JA htk,List.map_append,Qu,← JA hDL];show _=Ka D qa qb (qb.length / 64);rw[hbl,Nat.mul_div_cancel_left _ (by omega)]),l1.trans hDn,l2.trans hDo,l3.trans hDf,by rw[l4];omega,l5.trans hDl,fun x hx=>?_,hkr.trans (((Keep.refl [] wr).alloc (.cells #[.int .i64 (qa:Nat),.slice (some ⟨qg,0,none⟩) (64*kk) qc] 266)).zero.trans hk2 (fun x hx=>.inl hx)) (fun x hx=>hFr x hx)⟩;rcases hg2 x hx with h | h
     · exact hFr x h
     · have:=hkr.size;simp at h;right;omega
    case measure=>simp[intOf];omega
  · obtain rfl:M=k:=by omega
    have hFl:=Qc wr base d F' D hdr hDo hDf (by omega) (by have:=hkr.size;omega)
    go_wp2_with (refine hFl.mono ?_;clear hFl;rintro e w17 ⟨rfl,F2,hd2,hk2,hg2⟩)
    go_ret2;refine⟨rfl,F2,D.flush,hd2,by rw[JA hDL,List.take_of_length_le (by omega),JA HMP];rfl,hDn,hDo,hDf,by show D.acts+1≤200;omega,hDl,?_,?_⟩
    · exact(hkc15.zero.trans hkr (fun x hx=>.inl hx)).trans hk2 (fun x hx=>by rcases hFr x hx with h | h;(exact .inl h);(right;omega))
    · intro x hx
      rcases hg2 x hx with h | h
      · rcases hFr x h with h | h
        · exact .inl h
        · right;omega
      · right;have:=hkr.size;omega
end
section
open Go.RowKit
def XAo (p:Nat×List UInt8) (x:Nat):Prop:=p.1≤x∧x<p.1+p.2.length / 64
theorem KY (l:List (Nat×List UInt8)):∀ D:PDisk,D.now.length=D.n*64→(∀ p∈l,p.1+p.2.length / 64≤D.n) →
 (XS D l).n=D.n∧(XS D l).now.length=D.n*64∧∀ x,(∀ p∈l,¬ XAo p x)→seg 64 (XS D l).now x=seg 64 D.now x:=by
 induction l with
 | nil=>exact fun D hn _=>⟨rfl,hn,fun x _=>rfl⟩
 | cons q l ih=>
   intro D hn hl;obtain⟨h1,h2⟩:=Jh D q.1 q.2 (q.2.length / 64) hn (hl q (by simp)) (by omega);have h3:=(QK D q.1 q.2 (q.2.length / 64)).1;obtain⟨h4,h5,h6⟩:=ih (Ka D q.1 q.2 (q.2.length / 64)) h1 (fun p hp=>by rw[h3];exact hl p (by simp[hp]));refine⟨h4.trans h3,by rw[← h3];exact h5,fun x hx=>?_⟩;have h7:=h6 x (fun p hp=>hx p (by simp[hp]));refine h7.trans ?_;rw[h2];exact if_neg (hx q (by simp))
theorem XAO (p:Nat×List UInt8) (x:Nat) (hx:XAo p x) (l:List (Nat×List UInt8)):∀ D:PDisk,D.now.length=D.n*64→(∀ q∈l,q.1+q.2.length / 64≤D.n)→p∈l→(∀ q∈l,XAo q x→q=p) →
 seg 64 (XS D l).now x=seg 64 p.2 (x-p.1):=by
 induction l with
 | nil=>intro D _ _ hp;simp at hp
 | cons q l ih=>
   intro D hn hl hp hu;obtain⟨h1,h2⟩:=Jh D q.1 q.2 (q.2.length / 64) hn (hl q (by simp)) (by omega);have h3:=(QK D q.1 q.2 (q.2.length / 64)).1;have hl':∀ r∈l,r.1+r.2.length / 64≤(Ka D q.1 q.2 (q.2.length / 64)).n:=fun r hr=>by rw[h3];exact hl r (by simp[hr])
   by_cases hm:p∈l
   · exact ih (Ka D q.1 q.2 (q.2.length / 64)) h1 hl' hm (fun r hr=>hu r (by simp[hr]))
   · obtain rfl:p=q:=by
      rcases List.mem_cons.1 hp with h | h
      · exact h
      · exact absurd h hm
     refine((KY l _ h1 hl').2.2 x (fun r hr hc=>hm (hu r (by simp[hr]) hc ▸ hr))).trans ?_;rw[h2];exact if_pos hx
theorem YO (B:Nat) (p:Nat×List UInt8):p∈Vk B↔p=(0,List.replicate 64 0)∨p=(1,QAG B 1 1)∨p=(2,Vm B)∨p=(4,List.replicate 128 0) ∨
 (∃ k,k<pgs B∧p=(6+2*k,QQ (List.replicate (min (B-15*k) 15) 0)))∨(∃ k,k<pgs B∧p=(6+2*(k+pgs B),QQ (List.replicate (min (B-15*k) 15) (-1)))):=by
 unfold Vk ZY;simp only[List.mem_append,List.mem_map,List.mem_range,List.mem_cons,List.not_mem_nil,or_false,Nat.add_zero];constructor
 · rintro(((⟨k,hk,rfl⟩ | ⟨k,hk,rfl⟩) | h | h) | h | h)
   · exact .inr (.inr (.inr (.inr (.inl ⟨k,hk,rfl⟩))))
   · exact .inr (.inr (.inr (.inr (.inr ⟨k,hk,rfl⟩))))
   · exact .inr (.inr (.inl h))
   · exact .inr (.inr (.inr (.inl h)))
   · exact .inl h
   · exact .inr (.inl h)
 · rintro(h | h | h | h | ⟨k,hk,h⟩ | ⟨k,hk,h⟩)
   · exact .inr (.inl h)
   · exact .inr (.inr h)
   · exact .inl (.inr (.inl h))
   · exact .inl (.inr (.inr h))
   · exact .inl (.inl (.inl ⟨k,hk,h.symm⟩))
   · exact .inl (.inl (.inr ⟨k,hk,h.symm⟩))
theorem Yf (B:Nat):(Vm B).length=128:=ZZ _ _ _ _ rfl
theorem VQ (B k:Nat) (x:Int):(QQ (List.replicate (min (B-15*k) 15) x)).length=64:=XR (by simp;omega)
theorem QV {B:Nat} {p:Nat×List UInt8} (h:p∈Vk B):p.2.length / 64=if p.1=2∨p.1=4 then 2 else 1:=by
 rcases(YO B p).1 h with rfl | rfl | rfl | rfl | ⟨k,hk,rfl⟩ | ⟨k,hk,rfl⟩
 · simp
 · simp
 · simp[Yf]
 · simp
 · simp only[VQ];rw[if_neg (by omega)]
 · simp only[VQ];rw[if_neg (by omega)]
theorem YS {B:Nat} {p:Nat×List UInt8} (h:p∈Vk B):p.1+p.2.length / 64≤6+4*pgs B∧(p.1=0∨p.1=1∨p.1=2∨p.1=4∨(6≤p.1∧p.1 % 2=0)):=by
 rw[QV h];rcases(YO B p).1 h with rfl | rfl | rfl | rfl | ⟨k,hk,rfl⟩ | ⟨k,hk,rfl⟩
 · simp;omega
 · simp;omega
 · simp;omega
 · simp
 · simp only;rw[if_neg (by omega)];omega
 · simp only;rw[if_neg (by omega)];omega
theorem XAn {B:Nat} {p q:Nat×List UInt8} (hp:p∈Vk B) (hq:q∈Vk B) (h:p.1=q.1):p=q:=by
 rcases(YO B p).1 hp with rfl | rfl | rfl | rfl | ⟨k,hk,rfl⟩ | ⟨k,hk,rfl⟩ <;> rcases(YO B q).1 hq with rfl | rfl | rfl | rfl | ⟨j,hj,rfl⟩ | ⟨j,hj,rfl⟩ <;> simp only at h <;> first | rfl | (exfalso;omega) | (rw[show k=j by omega])
theorem Yg {n B:Nat} (hn:n=198+4*pgs B) {p:Nat×List UInt8} (hp:p∈Vk B) {x:Nat} (hx:XAo p x):seg 64 (JAs n B).now x=seg 64 p.2 (x-p.1):=by
 show seg 64 (XS (PDisk.new n) (Vk B)).now x=_;refine XAO p x hx _ _ (by simp[PDisk.new]) (fun q hq=>by have:=(YS hq).1;show _≤n;omega) hp (fun q hq hu=>XAn hq hp ?_);have h1:=(YS hq).2;have h2:=(YS hp).2;unfold XAo at hx hu;rw[QV hp] at hx;rw[QV hq] at hu
 split at hx <;> split at hu <;> omega
theorem KBA {n B:Nat} (hn:n=198+4*pgs B) {x:Nat} (hx:∀ p∈Vk B,¬ XAo p x) (hxn:x<n):seg 64 (JAs n B).now x=List.replicate 64 0:=by
 show seg 64 (XS (PDisk.new n) (Vk B)).now x=_;rw[(KY _ (PDisk.new n) (by simp[PDisk.new]) (fun q hq=>by have:=(YS hq).1;show _≤n;omega)).2.2 x hx];show ((List.replicate (n*64) (0:UInt8)).drop (x*64)).take 64=_;rw[List.drop_replicate,List.take_replicate]
 congr 1
 omega
theorem ZAi (bs:List UInt8) (h:bs.length=128):seg 64 bs 0++seg 64 bs 1=bs:=by
 unfold seg;rw[Nat.zero_mul,List.drop_zero,Nat.one_mul,List.take_of_length_le (l:=bs.drop 64) (by simp;omega),List.take_append_drop]
structure Fmt (B:Nat) (D:PDisk):Prop where
 n:D.n=198+4*pgs B
 len:D.now.length=D.n*64
 held:D.held=[]
 sup0:seg 64 D.now 0=List.replicate 64 0
 sup1:seg 64 D.now 1=QAG B 1 1
 reg0:seg 64 D.now 2++seg 64 D.now 3=Vm B
 reg1:seg 64 D.now 4++seg 64 D.now 5=List.replicate 128 0
 base:∀ k,k<pgs B→seg 64 D.now (6+2*k)=QQ (List.replicate (min (B-15*k) 15) 0)
 over:∀ k,k<pgs B→seg 64 D.now (6+2*(k+pgs B))=QQ (List.replicate (min (B-15*k) 15) (-1))
 log:∀ x,6+4*pgs B≤x→x<198+4*pgs B→seg 64 D.now x=List.replicate 64 0
theorem Jb (bs:List UInt8) (h:bs.length=64):seg 64 bs 0=bs:=by
 unfold seg;rw[Nat.zero_mul,List.drop_zero,List.take_of_length_le (by omega)]
theorem ZAv (B:Nat):Fmt B (JAs (198+4*pgs B) B):=by
 obtain⟨n,hn⟩:∃ n,n=198+4*pgs B:=⟨_,rfl⟩;rw[← hn];have hA:=KY (Vk B) (PDisk.new n) (by simp[PDisk.new]) (fun q hq=>by have:=(YS hq).1;show _≤n;omega);have m0:((0,List.replicate 64 0):Nat×List UInt8)∈Vk B:=(YO B _).2 (.inl rfl);have m1:((1,QAG B 1 1):Nat×List UInt8)∈Vk B:=(YO B _).2 (.inr (.inl rfl));have m2:((2,Vm B):Nat×List UInt8)∈Vk B:=(YO B _).2 (.inr (.inr (.inl rfl)));have m4:((4,List.replicate 128 0):Nat×List UInt8)∈Vk B:=(YO B _).2 (.inr (.inr (.inr (.inl rfl))));have ub:∀ {p:Nat×List UInt8} {x:Nat},p∈Vk B→(p.1=2∨p.1=4)→p.1≤x→x<p.1+2→XAo p x:=fun hp h h1 h2=>⟨h1,by rw[QV hp,if_pos h];exact h2⟩;have u1:∀ {p:Nat×List UInt8},p∈Vk B→¬ (p.1=2∨p.1=4)→XAo p p.1:=fun hp h=>⟨Nat.le_refl _,by rw[QV hp,if_neg h];exact Nat.lt_succ_self _⟩;refine⟨hA.1.trans hn,by show (XS (PDisk.new n) (Vk B)).now.length=(XS (PDisk.new n) (Vk B)).n*64;rw[hA.1];exact hA.2.1,rfl,?_,?_,?_,?_,fun k hk=>?_,fun k hk=>?_,fun x h1 h2=>?_⟩
 · exact(Yg hn m0 (u1 m0 (by simp))).trans (Jb _ (by simp))
 · exact(Yg hn m1 (u1 m1 (by simp))).trans (Jb _ (by simp))
 · have e1:=Yg hn m2 (ub m2 (.inl rfl) (Nat.le_refl 2) (by show 2<4;omega))
   have e2:=Yg hn m2 (ub m2 (.inl rfl) (show 2≤3 by omega) (by show 3<4;omega));simp only at e1 e2;rw[e1,e2];exact ZAi _ (Yf B)
 · have e1:=Yg hn m4 (ub m4 (.inr rfl) (Nat.le_refl 4) (by show 4<6;omega))
   have e2:=Yg hn m4 (ub m4 (.inr rfl) (show 4≤5 by omega) (by show 5<6;omega));simp only at e1 e2;rw[e1,e2];exact ZAi _ (by simp)
 · have m:((6+2*k,QQ (List.replicate (min (B-15*k) 15) 0)):Nat×List UInt8)∈Vk B:=(YO B _).2 (.inr (.inr (.inr (.inr (.inl ⟨k,hk,rfl⟩)))))
   have e:=Yg hn m (u1 m (by simp only;omega));simp only[Nat.sub_self] at e;exact e.trans (Jb _ (VQ B k 0))
 · have m:((6+2*(k+pgs B),QQ (List.replicate (min (B-15*k) 15) (-1))):Nat×List UInt8)∈Vk B:=(YO B _).2 (.inr (.inr (.inr (.inr (.inr ⟨k,hk,rfl⟩)))))
   have e:=Yg hn m (u1 m (by simp only;omega));simp only[Nat.sub_self] at e;exact e.trans (Jb _ (VQ B k (-1)))
 · exact KBA hn (fun p hp hu=>by have:=(YS hp).1;unfold XAo at hu;omega) (by omega)
end
section
open Go.RowKit Go.Shelf
theorem KAZ (w:World) (base d:Nat) (F:List Nat) (D:PDisk) (hn:2≤D.n) (hoff:D.off=false) (hf:∀ k,k<2→D.faults[k]? = some false) (h:DiskAt w base d F D) :
 Calls Tryz.prog 172 #[.pointer (some ⟨d,0,none⟩)] w fun e w'=>∃ A0 c0 A1 c1,e=.returned (.tuple #[.agg #[.slice A0 64 c0,.slice A1 64 c1],.int .i64 0]) ∧
  w'.ownsRow w.heap.size 5 1 (.slice A0 64 c0) 64 (bys (seg 64 D.now 0))∧w'.ownsRow w.heap.size 5 1 (.slice A1 64 c1) 64 (bys (seg 64 D.now 1))∧Keep [] w w':=by
 have hR:=fun(k:Nat) (hk:k<2) W (hK:Keep [] w W)=>QY W base d F D (h.keep0 hK) hoff k (by omega) (hf k hk)
 go_enter Tryz.func172,Tryz.ntmps172
 go_wp2_with fail
 have hb0:=Blk.new w 254 #[.slice none 0 0,.slice none 0 0];have hk0:Keep [] w (w.alloc (.cells #[.slice none 0 0,.slice none 0 0] 254)):=(Keep.refl _ _).alloc _;generalize w.alloc (.cells #[.slice none 0 0,.slice none 0 0] 254)=wA at *
 go_loopw [3,4,5] (fun _ _ i wr=>∃ (k:Nat) (S0 S1:Value),k≤2∧i=.int .i64 (k:Nat)∧Blk wr w.heap.size 254 #[S0,S1]∧(0<k→∃ A c,S0=.slice A 64 c∧wr.ownsRow w.heap.size 5 1 S0 64 (bys (seg 64 D.now 0)))∧(1<k→∃ A c,S1=.slice A 64 c∧wr.ownsRow w.heap.size 5 1 S1 64 (bys (seg 64 D.now 1)))∧Keep [] w wr) (fun _ _ i _=>2-(intOf i).toNat)
 case atStart=>exact⟨0,_,_,by omega,rfl,hb0,by omega,by omega,hk0⟩
 case round=>
  clear hb0 hk0;obtain⟨k,S0,S1,hk,rfl,hb,h0,h1,hkr⟩:=hrel;have q0:wr.cell? ⟨w.heap.size,0,none⟩=some S0:=by simpa using hb.cell 0
  have q1:wr.cell? ⟨w.heap.size,1,none⟩=some S1:=by simpa using hb.cell 1
  have hne:∀ {q:Value} {n:Nat} {ys:List Value} {W:World},Blk W w.heap.size 254 #[S0,S1]→W.ownsRow w.heap.size 5 1 q n ys→∀ x,q.ownBlock=some x→x∉[w.heap.size]:=fun hB hq x hx hm=>by
   simp at hm;subst hm;exact own_blk_ne hq hB (by decide) hx
  by_cases hk0:k=0
  · subst hk0
    have hRk:=hR 0 (by omega) wr hkr
    go_wp2_with (
     (refine hRk.mono ?_)
     clear hRk q0 q1;rintro e w2 ⟨u,rfl,hu,hk2⟩;obtain⟨UA,uc,rfl,_⟩:=JB hu;have hb2:=hb.keep0 hk2;have q0:w2.cell? ⟨w.heap.size,0,none⟩=some S0:=by simpa using hb2.cell 0
     have f0:=hb2.frozen 0)
    have hbs:=hb2.set 0 (.slice UA 64 uc);have hks:Keep [w.heap.size] w2 (w2.setCell ⟨w.heap.size,0,none⟩ (.slice UA 64 uc)):=(Keep.refl _ _).setCell (p:=⟨w.heap.size,0,none⟩) (.inl (by simp)) _;have huB:=KB hu hkr.size
    go_roundw
    case rel=>exact⟨1,.slice UA 64 uc,S1,by omega,rfl,by simpa using hbs,fun _=>⟨UA,uc,rfl,XB huB hks (hne hb2 huB)⟩,by omega,(hkr.trans0 hk2).trans hks (fun x hx=>.inr (by simp at hx;omega))⟩
    case measure=>simp[intOf]
  · by_cases hk1:k=1
    · subst hk1
      obtain⟨A0,c0,rfl,hw0⟩:=h0 (by omega);have hRk:=hR 1 (by omega) wr hkr
      go_wp2_with (
       (refine hRk.mono ?_)
       clear hRk q0 q1;rintro e w2 ⟨u,rfl,hu,hk2⟩;obtain⟨UA,uc,rfl,_⟩:=JB hu;have hb2:=hb.keep0 hk2;have q1:w2.cell? ⟨w.heap.size,1,none⟩=some S1:=by simpa using hb2.cell 1
       have f1:=hb2.frozen 1)
      have hbs:=hb2.set 1 (.slice UA 64 uc);have hks:Keep [w.heap.size] w2 (w2.setCell ⟨w.heap.size,1,none⟩ (.slice UA 64 uc)):=(Keep.refl _ _).setCell (p:=⟨w.heap.size,1,none⟩) (.inl (by simp)) _;have huB:=KB hu hkr.size;have hw2:=QB hw0 hk2
      go_roundw
      case rel=>exact⟨2,.slice A0 64 c0,.slice UA 64 uc,by omega,rfl,by simpa using hbs,fun _=>⟨A0,c0,rfl,XB hw2 hks (hne hb2 hw2)⟩,fun _=>⟨UA,uc,rfl,XB huB hks (hne hb2 huB)⟩,(hkr.trans0 hk2).trans hks (fun x hx=>.inr (by simp at hx;omega))⟩
      case measure=>simp[intOf]
    · obtain rfl:k=2:=by omega
      obtain⟨A0,c0,rfl,hw0⟩:=h0 (by omega);obtain⟨A1,c1,rfl,hw1⟩:=h1 (by omega);have f0:=hb.frozen 0;have f1:=hb.frozen 1;clear h0 h1
      go_wp2_with fail
      have hbz:=(hb.set 0 (.slice A0 64 c0)).set 1 (.slice A1 64 c1);have g0:((wr.setCell ⟨w.heap.size,0,none⟩ (.slice A0 64 c0)).setCell ⟨w.heap.size,1,none⟩ (.slice A1 64 c1)).cell? ⟨w.heap.size,0,none⟩=some (.slice A0 64 c0):=by simpa using hbz.cell 0
      have g1:((wr.setCell ⟨w.heap.size,0,none⟩ (.slice A0 64 c0)).setCell ⟨w.heap.size,1,none⟩ (.slice A1 64 c1)).cell? ⟨w.heap.size,1,none⟩=some (.slice A1 64 c1):=by simpa using hbz.cell 1
      have hks:Keep [w.heap.size] wr ((wr.setCell ⟨w.heap.size,0,none⟩ (.slice A0 64 c0)).setCell ⟨w.heap.size,1,none⟩ (.slice A1 64 c1)):=((Keep.refl [w.heap.size] wr).setCell (p:=⟨w.heap.size,0,none⟩) (.inl (by simp)) _).setCell (p:=⟨w.heap.size,1,none⟩) (.inl (by simp)) _;refine bodyPost_ret (v:=.tuple #[.agg #[.slice A0 64 c0,.slice A1 64 c1],.int .i64 0]) (by simp[results,Tryz.results172,go_sem,g0,g1]) rfl ⟨A0,c0,A1,c1,rfl,XB hw0 hks (hne hb hw0),XB hw1 hks (hne hb hw1),hkr.trans hks (fun x hx=>.inr (by simp at hx;omega))⟩
end
section
open Go.RowKit Go.Shelf
theorem QAi (w:World) (f d base B:Nat) (F:List Nat) (D:PDisk) (hb:Blk w f 311 #[.pointer (some ⟨d,0,none⟩),.pointer none,.int .i64 0,.int .i64 0,.int .i64 0,.int .i64 0,.int .i64 0,.int .i64 0,.int .i64 0,.int .i64 0,.int .i64 0,.int .i64 0,.int .i64 0,.int .i64 0,.int .i64 0,.int .i64 0,.int .i64 0,.int .i64 0,.slice none 0 0,.slice none 0 0,.slice none 0 0,.int .i64 0,.pointer none,.pointer none,.int .i64 0,.int .i64 0,.int .i64 0,.int .i64 0,.int .i64 0,.int .i64 0,.int .i64 0,.int .i64 0,.int .i64 0,.int .i64 0,.int .i64 0,.int .i64 0,.int .i64 0,.int .i64 0,.int .i64 0]) (h:DiskAt w base d F D) (hoff:D.off=false) (hfl:∀ k,k<D.n→D.faults[k]? = some false) (hF:Fmt B D) (h1:1≤B) (h2:B≤64) (hfF:f∉F) :
 Calls Tryz.prog 218 #[.pointer (some ⟨f,0,none⟩)] w fun e w'=>e=.returned (.int .i64 0)∧∃ g,Blk w' f 311 #[.pointer (some ⟨d,0,none⟩),.pointer (some ⟨g,0,none⟩),.int .i64 B,.int .i64 8,.int .i64 24,.int .i64 1,.int .i64 1,.int .i64 0,.int .i64 0,.int .i64 0,.int .i64 0,.int .i64 0,.int .i64 0,.int .i64 0,.int .i64 0,.int .i64 0,.int .i64 0,.int .i64 0,.slice none 0 0,.slice none 0 0,.slice none 0 0,.int .i64 0,.pointer none,.pointer none,.int .i64 0,.int .i64 0,.int .i64 0,.int .i64 0,.int .i64 0,.int .i64 0,.int .i64 0,.int .i64 0,.int .i64 0,.int .i64 0,.int .i64 0,.int .i64 0,.int .i64 0,.int .i64 0,.int .i64 0]∧GeomAt w' g B∧w.heap.size≤g∧Keep [f] w w':=by
 have hn:=hF.n;have hSu:=KAZ w base d F D (by omega) hoff (fun k hk=>hfl k (by omega)) h;rw[hF.sup0,hF.sup1] at hSu;have hC:=fun A A' c c' W ha hb=>VAm B 1 1 h1 h2 (by omega) (by omega) A A' c c' W ha hb;have hG:=fun W=>Xf W B h1 h2;have hSe:=fun W (hk:Keep [f] w W)=>JZ W base d F D (h.keep hk (fun x hx hm=>by simp at hm;subst hm;exact hfF hx));have c0:w.cell? ⟨f,0,none⟩=some (.pointer (some ⟨d,0,none⟩)):=by simpa using hb.cell 0
 clear hF hfl;rw[hn] at hSe;obtain⟨P,hP⟩:∃ P,P=pgs B:=⟨_,rfl⟩;rw[← hP] at hSe hn
 go_enter Tryz.func218,Tryz.ntmps218
 go_wp2_with (
  refine hSu.mono ?_;clear hSu c0;rintro e w2 ⟨A0,cc0,A1,cc1,rfl,hu0,hu1,hk2⟩;have hb2:=hb.keep0 hk2)
 have hka:=(Keep.refl [] w2).alloc (.cells #[.slice A0 64 cc0,.slice A1 64 cc1] 254);have hC1:=hC A0 A1 cc0 cc1 _ (Rd.of_own (QB hu0 hka)) (Rd.of_own (QB hu1 hka));clear hC;replace hb2:=hb2.keep0 hka;have hkw:=hk2.trans0 hka;clear hka hu0 hu1 hk2
 go_wp2_with (
  refine hC1.mono ?_;clear hC1;rintro e w3 ⟨rfl,hk3⟩;replace hb2:=hb2.keep0 hk3;replace hkw:=hkw.trans0 hk3;have c2:w3.cell? ⟨f,2,none⟩=some (.int .i64 0):=by simpa using hb2.cell 2
  have c3:w3.cell? ⟨f,3,none⟩=some (.int .i64 0):=by simpa using hb2.cell 3
  have c4:w3.cell? ⟨f,4,none⟩=some (.int .i64 0):=by simpa using hb2.cell 4
  have c5:w3.cell? ⟨f,5,none⟩=some (.int .i64 0):=by simpa using hb2.cell 5
  have c6:w3.cell? ⟨f,6,none⟩=some (.int .i64 0):=by simpa using hb2.cell 6
  have f2:=hb2.frozen 2;have f3:=hb2.frozen 3;have f4:=hb2.frozen 4;have f5:=hb2.frozen 5;have f6:=hb2.frozen 6;have hlt:=hb2.lt)
 have hz:=(((((hb2.set 2 (.int .i64 B)).set 3 (.int .i64 8)).set 4 (.int .i64 24)).set 5 (.int .i64 1)).set 6 (.int .i64 1));have hkz:=((((((Keep.refl [f] w3).setCell (p:=⟨f,2,none⟩) (.inl (by simp)) (.int .i64 B)).setCell (p:=⟨f,3,none⟩) (.inl (by simp)) (.int .i64 8)).setCell (p:=⟨f,4,none⟩) (.inl (by simp)) (.int .i64 24)).setCell (p:=⟨f,5,none⟩) (.inl (by simp)) (.int .i64 1)).setCell (p:=⟨f,6,none⟩) (.inl (by simp)) (.int .i64 1));simp only[List.setIfInBounds_toArray,List.set_cons_zero,List.set_cons_succ] at hz;have hkf:=hkw.zero.trans hkz (fun x hx=>.inl hx);clear c2 c3 c4 c5 c6 f2 f3 f4 f5 f6 hlt hb2 hkw hkz;generalize (((((w3.setCell ⟨f,2,none⟩ (.int .i64 B)).setCell ⟨f,3,none⟩ (.int .i64 8)).setCell ⟨f,4,none⟩ (.int .i64 24)).setCell ⟨f,5,none⟩ (.int .i64 1)).setCell ⟨f,6,none⟩ (.int .i64 1))=w4 at *;have c2:w4.cell? ⟨f,2,none⟩=some (.int .i64 B):=by simpa using hz.cell 2
 have c3:w4.cell? ⟨f,3,none⟩=some (.int .i64 8):=by simpa using hz.cell 3
 have c4:w4.cell? ⟨f,4,none⟩=some (.int .i64 24):=by simpa using hz.cell 4
 go_wp2_with (
  refine(hG _).mono ?_;clear hG c2 c3 c4;rintro e w5 ⟨g,rfl,hg,hgb,hk5⟩;have hb5:=hz.keep0 hk5;have q1:w5.cell? ⟨f,1,none⟩=some (.pointer none):=by simpa using hb5.cell 1
  have f1:=hb5.frozen 1;have hlt:=hb5.lt)
 have hz2:=hb5.set 1 (.pointer (some ⟨g,0,none⟩));simp only[List.setIfInBounds_toArray,List.set_cons_zero,List.set_cons_succ] at hz2;have hk6:Keep [f] w5 (w5.setCell ⟨f,1,none⟩ (.pointer (some ⟨g,0,none⟩))):=(Keep.refl _ _).setCell (p:=⟨f,1,none⟩) (.inl (by simp)) _;have hgf:g∉[f]:=fun hm=>by simp at hm;subst hm;exact Blk.ne_ hg.blk hb5 (by decide) rfl
 have hg6:=hg.keep hk6 hgf;have hkf6:=(hkf.trans0 hk5).trans hk6 (fun x hx=>.inl hx);have hgl:w.heap.size≤g:=Nat.le_trans hkf.size hgb;clear q1 f1 hlt hb5 hz hkf hg hk6 hk5 hgb;generalize w5.setCell ⟨f,1,none⟩ (.pointer (some ⟨g,0,none⟩))=w6 at *;have hbD:=hz2.drew;have hkD:=hkf6.drew;have hgD:=hg6.keep0 (Keep.refl [] w6).drew;have d0:w6.drew.cell? ⟨f,0,none⟩=some (.pointer (some ⟨d,0,none⟩)):=by simpa using hbD.cell 0
 have d1:w6.drew.cell? ⟨f,1,none⟩=some (.pointer (some ⟨g,0,none⟩)):=by simpa using hbD.cell 1
 refine ZT (fun W=>W.cell? ⟨f,0,none⟩=some (.pointer (some ⟨d,0,none⟩))∧W.cell? ⟨f,1,none⟩=some (.pointer (some ⟨g,0,none⟩))) 9 [[0,1,2,3,5,6,7,8],[4]] ⟨d0,d1⟩ ?_;simp only[PI]
 iterate 8 (refine ZH ?_;simp only[Act.put,PU])
 refine ZB (by rfl) (fun K hK=>?_)
 go_wp2_with (refine(hSe _ hkD).mono ?_;rintro e w7 ⟨rfl,rfl⟩)
 refine hK _ _ (⟨d0,d1⟩) ?_;clear hK K
 try simp only[Act.put,PU]
 refine QC ?_;have hSG:=SectorsG_is _ g B hgD;rw[← hP] at hSG
 go_wp2_with (refine hSG.mono ?_;clear hSG;rintro e w8 ⟨rfl,hk8⟩)
 go_ret;exact⟨rfl,g,hbD.keep0 hk8,hgD.keep0 hk8,hgl,hkD.trans0 hk8⟩
end
section
open Go.RowKit
def YAZ (base:List (List UInt8)) (over:List (Option (List UInt8))):List (List UInt8):=List.zipWith (fun b o=>o.getD b) base over
theorem Vh {bl ol:List Int} (h:bl.length=ol.length):YBD bl ol ol.length=List.zipWith (fun b o=>if o = -1 then b else o) bl ol:=by
 unfold YBD;rw[List.take_of_length_le (by simp;omega),List.drop_of_length_le (by omega),List.append_nil]
theorem JM (ol:List Int):Kn ol ol.length=List.replicate ol.length (-1):=by
 unfold Kn;rw[List.drop_of_length_le (by omega),List.append_nil]
theorem Marked.good {B:Nat} {S S':PS} {e k j:Nat} (h:Marked B S e S') (hg:Good B S k j) (hk:k≤50) (he:1≤e∧e≤j+1) (hj:j≤100000) :
 Good B S' (k+1) (j+2)∧KI B S'=YAZ (KI B S) (XK B S)∧XK B S'=List.replicate B none∧S'.st={ S.st with epoch:=e,seq:=S.st.seq+1,done:=S.st.seq+1 }:=by
 obtain⟨D1,us1,lv1,W1,a,D2,us2,W2,bd,od,hA,hE,rfl⟩:=h;have hmay:PItem.May ⟨3,0,0,e⟩:=.inr (.inr (.inl ⟨rfl,rfl,rfl,he.1,by simp only;omega⟩));have hc:=hg.cap.added hk hmay (fun h=>by cases h) hA;obtain⟨r1,r2,r3,r4,r5⟩:=hA.reads hg.cap hk hg.now hg.many;have hc2:=hc.mark hE 1 (by omega) D2.flush (by show D2.acts+1≤_;omega);obtain⟨q1,q2⟩:=hE.reads hc.ok r1 (r2.trans hg.many) hc.seg hc.off;obtain⟨_,_,_,_,_,_,_,_,_,_,_,f1,_,_,f4⟩:=hE.facts hc.ok
 have hK:∀ x,Lies B S.us S.W x→Lies B us2 W2 x∧YK B D2.flush W2 x=YK B S.D S.W x:=by
  intro x hx;obtain⟨a1,a2,_⟩:=r4 x hx;obtain⟨b1,b2⟩:=q2 x a1;exact⟨b1,b2.trans a2⟩
 have hKb:=JY (B:=B) (S:=S) (S':={ S with D:=D2.flush,us:=us2,W:=W2 }) hK hg.brefs;have hKo:=XZ (B:=B) (S:=S) (S':={ S with D:=D2.flush,us:=us2,W:=W2 }) hK hg.orefs;have hbl:=hg.bl;have hol:=hg.ol;have hlen:S.I.bl.length=S.I.ol.length:=by omega
 refine⟨⟨hc2,q1,(f1.trans r2).trans hg.many,?_,?_,hg.b1,hg.b64,?_,?_,?_,?_,by have:=hg.seq;simp only;omega,by simp only;omega,by simp only;omega⟩,?_,?_,rfl⟩
 · show ∀ x∈D2.faults,x=false
   rw[f4,r3];exact hg.flt
 · show D2.faults.length=D2.n
   rw[f4,r3,f1,r2];exact hg.flen
 · simp only;rw[Vh hlen];simp;omega
 · simp only;rw[JM];simp;omega
 · intro x hx
   simp only at hx;rw[Vh hlen] at hx;obtain⟨i,hi⟩:=List.getElem?_of_mem hx;rw[List.getElem?_zipWith] at hi
   split at hi
   · rename_i u v hu hv
     simp only[Option.some.injEq] at hi;subst hi
     split
     · exact hKb.1 u (List.mem_of_getElem? hu)
     · exact(hKo.1 v (List.mem_of_getElem? hv)).resolve_left (by assumption)
   · cases hi
 · intro x hx
   simp only at hx;rw[JM] at hx;exact .inl (List.eq_of_mem_replicate hx)
 · have e1:KI B S=S.I.bl.map (QG B { S with D:=D2.flush,us:=us2,W:=W2 }):=hKb.2.symm
   have e2:XK B S=S.I.ol.map (fun a=>if a = -1 then none else some (QG B { S with D:=D2.flush,us:=us2,W:=W2 } a)):=hKo.2.symm;rw[e1,e2];unfold KI YAZ;simp only;rw[Vh hlen];apply List.ext_getElem?;intro i;simp only[List.getElem?_map,List.getElem?_zipWith];rcases S.I.bl[i]? with _ | u <;> rcases S.I.ol[i]? with _ | v
   · rfl
   · rfl
   · rfl
   · simp only[Option.map_some,Option.some.injEq]
     split <;> rfl
 · unfold XK
   simp only;rw[JM,List.map_replicate,if_pos rfl,hol]
end
section
open Go.RowKit
def VAr (B:Nat) (o:POp):Prop:=
 (o.k=1∧0≤o.b∧o.b<B∧o.d.length=64)∨(o.k=2∧0≤o.b∧1≤o.c∧o.b+o.c≤B)∨(o.k=3∧1≤o.e∧o.e≤2147483647)
def Does (B:Nat) (S:PS) (o:POp) (S':PS):Prop:=
 (o.k=1∧Wrote B S o.b.toNat o.d S')∨(o.k=2∧Trimmed B S o.b.toNat o.c.toNat S')∨(o.k=3∧o.e=S.st.epoch+1∧Marked B S o.e.toNat S')
theorem Good.mono {B:Nat} {S:PS} {k k' j j':Nat} (h:Good B S k j) (hk:k≤k') (hj:j≤j'):Good B S k' j':=
 ⟨h.cap.mono hk hj,h.now,h.many,h.flt,h.flen,h.b1,h.b64,h.bl,h.ol,h.brefs,h.orefs,Nat.le_trans h.seq hj,Nat.le_trans h.epoch hj,h.done⟩
def JBD (st:PSt) (o:POp):PSt:=if o.k=3 then { st with epoch:=st.epoch+1,seq:=st.seq+1,done:=st.seq+1 } else { st with seq:=st.seq+1 }
theorem Does.good {B:Nat} {S S':PS} {o:POp} {k j:Nat} (h:Does B S o S') (ho:VAr B o) (hg:Good B S k j) (hk:k≤50) (hj:j≤100000):Good B S' (k+1) (j+2)∧S'.st=JBD S.st o:=by
 rcases h with⟨h1,h2⟩ | ⟨h1,h2⟩ | ⟨h1,h2,h3⟩
 · rcases ho with⟨_,o1,o2,o3⟩ | ⟨o0,_⟩ | ⟨o0,_⟩
   · obtain⟨g1,_,_,g4⟩:=h2.good hg hk (by omega) o3
     exact⟨g1.mono (Nat.le_refl _) (by omega),by rw[g4,JBD,if_neg (by omega)]⟩
   · omega
   · omega
 · rcases ho with⟨o0,_⟩ | ⟨_,o1,o2,o3⟩ | ⟨o0,_⟩
   · omega
   · obtain⟨g1,_,_,g4⟩:=h2.good hg hk (by omega) (by omega)
     exact⟨g1.mono (Nat.le_refl _) (by omega),by rw[g4,JBD,if_neg (by omega)]⟩
   · omega
 · have he:=hg.epoch
   obtain⟨g1,_,_,g4⟩:=h3.good hg hk (by omega) hj;have e:o.e.toNat=S.st.epoch+1:=by omega
   exact⟨g1.mono (Nat.le_refl _) (by omega),by rw[g4,JBD,if_pos h1,e]⟩
structure RS where
 S:PS
 next:Nat
 sl:List PSlot
def RS.cur (R:RS):PSlot:=R.sl.getD (R.next % R.sl.length) PSlot.none_
def RS.cut (R:RS):List PSlot:=R.sl.set (R.next % R.sl.length) PSlot.none_
inductive Ran (B:Nat):RS→RS→Nat→Prop
 | stop {R:RS}:R.cur.is=false→Ran B R R 0
 | bad {R:RS}:R.cur.is=true→R.cur.o.k=3→R.cur.o.e≠R.S.st.epoch+1→Ran B R ⟨R.S,R.next,R.cut⟩ 1
 | step {R R':RS} {S':PS} {e:Nat}:R.cur.is=true→Does B R.S R.cur.o S'→Ran B ⟨S',R.next+1,R.cut⟩ R' e→Ran B R R' e
def Jf (sl:List PSlot):Nat:=sl.countP (·.is)
def KM (m:Nat):List PSlot:=List.replicate m PSlot.none_
end
end Go.Proofs.YtkonbpfbjiepfaaGreat
