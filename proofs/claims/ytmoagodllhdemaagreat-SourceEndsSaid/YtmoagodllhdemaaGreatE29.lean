/-
  A part of the proof: lemmas, and contracts of functions; their conditions stand in them.
-/
import Derived.Test.YtmoagodllhdemaaGreatE28
import Derived.Test.YtmoagodllhdemaaGreatE10
namespace Go.Proofs.YtmoagodllhdemaaGreat
set_option linter.unusedSimpArgs false
set_option linter.unusedVariables false
set_option maxHeartbeats 2000000
set_option maxRecDepth 20000
section
open Go.RowKit
theorem RDkIs.setLaid {w w2:World} {base d:Nat} {S H U L:Value} {F:List Nat} {R:PRD} (h:RDkIs w base d S H U L F R) (hk:Keep L.ownBlock.toList w w2) (L':Value) (q:Value)
 (hL:w2.ownsRow base 40 1 L' (R.lv.length+1) (R.lv++[q])) (N:Nat) (hN:w.heap.size≤N) (hb:L'.ownBlock=L.ownBlock∨L'.ownBlock=some N) (ha:R.lv.length+1≤100000) :
 ∃ F',RDkIs (w2.setCell ⟨d,6,none⟩ L') base d S H U L' F' { R with lv:=R.lv++[q] }∧Keep F w (w2.setCell ⟨d,6,none⟩ L')∧Grow w F F':=by
 have hf:=h.foot
 have hkd:Keep [d] w2 (w2.setCell ⟨d,6,none⟩ L'):=(Keep.refl _ _).setCell (p:=⟨d,6,none⟩) (.inl (by simp)) _
 have hdL:d∉L.ownBlock.toList:=h.dL
 have hb2:=(h.blk.keep hk hdL).set 6 L'
 have ho:∀ {e:TypeId} {s n:Nat} {v:Value} {xs:List Value},w.ownsRow base e s v n xs→e≠40→d∉v.ownBlock.toList→(w2.setCell ⟨d,6,none⟩ L').ownsRow base e s v n xs:=fun hv he hd=>
  QB (QB hv hk (fun x hx hm=>own_ne hv h.laid he hx (by simpa using hm))) hkd (fun x hx=>by simp;rintro rfl;exact hd (by simpa using hx))
 have hdL':d∉L'.ownBlock.toList:=fun hm=>by
  rcases hb with e | e
  · rw [e] at hm;exact hdL hm
  · rw [e] at hm;simp at hm;have:=h.blk.lt;omega
 obtain ⟨sg,sc,hS,_⟩:=ZE h.safe h.pos
 have hsb:S.ownBlock=some sg:=by rw [hS];rfl
 have hsg:sg<w.heap.size:=JV h.safe sg (by rw [hsb];simp)
 have hsL:sg∉L.ownBlock.toList:=fun hm=>h.ne (by rw [hsb];simp at hm;exact hm.symm)
 refine ⟨_,⟨by simpa using hb2,?_,ho h.held (by decide) h.dH,ho h.flt (by decide) h.dU,?_,?_,rfl,h.base,h.pos,h.few,h.ats,⟨h.hfew.1,by simpa using ha⟩⟩,?_,?_⟩
 · exact QB (QB h.safe hk (fun x hx hm=>by rw [hsb] at hx;cases hx;exact hsL hm)) hkd (fun x hx=>by simp;rintro rfl;exact h.dS (by simpa using hx))
 · have:=QB hL hkd (fun x hx=>by simp;rintro rfl;exact hdL' (by simpa using hx))
   simpa using this
 · intro e
   rcases hb with e2 | e2
   · exact h.ne (e.trans e2)
   · rw [hsb,e2] at e
     injection e with e
     omega
 · exact (hk.sub (fun x hx=>by rw [hf];simp at hx;simp [hx])).trans (hkd.sub (m:=F) (fun x hx=>by rw [hf];simp at hx;simp [hx])) (fun x hx => .inl hx)
 · intro x hx
   simp only [List.mem_cons,List.mem_append] at hx
   rw [hf]
   simp only [List.mem_cons,List.mem_append]
   rcases hx with hx | hx | hx | hx | hx
   · simp [hx]
   · simp [hx]
   · simp [hx]
   · simp [hx]
   · rcases hb with e | e
     · rw [e] at hx;simp [hx]
     · rw [e] at hx;simp at hx;right;omega
theorem VAc (w:World) (base d:Nat) (F:List Nat) (R:PRD) (h:RDkAt w base d F R) (ha:R.lv.length≤1000) (A:Option Addr) (n c:Nat) (hbase:base≤w.heap.size) :
 Calls Tryz.prog 188 #[.pointer (some ⟨d,0,none⟩),.slice A n c] w fun e w'=>e = .returned (.tuple #[])∧∃ F' R',RDkAt w' base d F' R'∧R'.n=R.n∧R'.asked=R.asked∧R'.lv.length=R.lv.length+1∧Keep F w w'∧Grow w F F':=by
 obtain ⟨S,H,U,L,h⟩:=h
 obtain ⟨c0,c1,c2,c3,c4,c5,c6⟩:=XF h.blk
 have hkA:Keep [] w (w.alloc (.cells #[.slice A n c] 40)):=(Keep.refl _ _).alloc _
 go_enter Tryz.func188,Tryz.ntmps188
 go_wp2_with (at_builtin;refine elemRows.wp_app rfl (.tmp 8) (.tmp 10) rfl base L R.lv.length R.lv rfl (ZD h.laid _) (some ⟨w.heap.size,0,none⟩) 1 1 [.slice A n c] rfl (VL w (.slice A n c) 40) (by simp [Value.oneCell']) (by omega) (by omega) (Nat.le_trans hbase hkA.size) ?_)
 rintro L' w2 hL' hk2 hb2 _
 have hk12:Keep L.ownBlock.toList w w2:=hkA.zero.trans hk2 (fun x hx => .inl hx)
 have hblk2:=h.blk.keep hk12 h.dL
 have q6:=hblk2.frozen 6
 have j6:=(XF hblk2).2.2.2.2.2.2
 obtain ⟨F',hres,hkF,hgF⟩:=h.setLaid hk12 L' (.slice A n c) hL' (w.heap.size+1) (by omega) hb2 (by omega)
 obtain ⟨A',c',rfl,_⟩:=JB hL'
 go_wp2_with fail
 refine bodyPost_end (v := .tuple #[]) (by simp [results,Tryz.results188,go_sem]) rfl ?_
 exact ⟨rfl,F',_,⟨_,_,_,_,hres⟩,rfl,rfl,by simp,hkF,hgF⟩
theorem JAQ (w:World) (base d:Nat) (F:List Nat) (R:PRD) (h:RDkAt w base d F R) (ha:R.asked≤1000000) :
 Calls Tryz.prog 195 #[.pointer (some ⟨d,0,none⟩)] w fun e w'=>e = .returned (.int .i64 0)∧Keep F w w':=by
 obtain ⟨S,H,U,L,h⟩:=h
 obtain ⟨sg,sc,rfl,hsc,hc63⟩:=ZE h.safe h.pos
 have hT:=VAN w base d _ H U L F R h (by omega)
 have hfoot:=h.foot
 have hats:=h.ats
 have hhf:=h.hfew.1
 go_enter Tryz.func195,Tryz.ntmps195
 go_wp2_with (refine hT.mono ?_;clear hT;rintro e w1 ⟨rfl,h1,hk1⟩)
 have hF1:Keep F w w1:=hk1.sub (fun x hx=>by rw [hfoot];simp at hx;simp [hx])
 have hd1:d∉(Value.slice (some ⟨sg,0,none⟩) R.n sc).ownBlock.toList:=h1.dS
 have hdH:=h1.dH
 have hb1:=h1.blk
 have hs1:=h1.safe
 have hh1:=h1.held
 simp only at hb1 hs1 hh1
 obtain ⟨HA,hc,rfl,_⟩:=JB hh1
 clear h1 hk1 h
 go_loopw [3] (fun i wr=>∃ (k:Nat) (sv:List Value),k≤R.hs.length∧i = .int .i64 (k:Nat)∧Blk wr d 237 #[.slice (some ⟨sg,0,none⟩) R.n sc,.slice HA R.hs.length hc,U,.int .i64 (-1),.bool false,.int .i64 (R.asked+1:Nat),L] ∧
  wr.ownsRow base 40 1 (.slice (some ⟨sg,0,none⟩) R.n sc) R.n sv∧wr.ownsRow base 320 2 (.slice HA R.hs.length hc) R.hs.length (R.hs.flatMap hdc)∧Keep F w wr) (fun i _=>R.hs.length-(intOf i).toNat)
 case atStart=>exact ⟨0,R.sv,Nat.zero_le _,rfl,hb1,hs1,hh1,hF1⟩
 case round=>
  clear hb1 hs1 hh1 hF1
  obtain ⟨k,sv,hk,rfl,hbr,hsr,hhr,hFr⟩:=hrel
  obtain ⟨c0,c1,c2,c3,c4,c5,c6⟩:=XF hbr
  by_cases hlt:k<R.hs.length
  · have hltI:((k:Nat):Int)<(R.hs.length:Nat):=by omega
    obtain ⟨hg,hc',e',hcc,_⟩:=ZE hhr (by omega)
    injection e' with e1 e2 e3
    subst e1 e3
    obtain ⟨hat,hqA,hqn,hqc,hqe⟩:=hats R.hs[k] (List.getElem_mem _)
    have hx0:wr.cell? ⟨hg,k*2,none⟩=some (.int .i64 (R.hs[k].1:Nat)):=VH hhr (by rw [show k*2=k*2+0 from rfl,XJ Vk R.hs k 0 hlt (by omega)];rfl)
    have hx1:wr.cell? ⟨hg,k*2+1,none⟩=some R.hs[k].2:=VH hhr (by rw [XJ Vk R.hs k 1 hlt (by omega)];rfl)
    generalize R.hs[k]=q at *
    obtain ⟨qa,qv⟩:=q
    simp only at hat hqe hx0 hx1
    subst hqe
    have hltJ:((qa:Nat):Int)<(R.n:Nat):=by omega
    have hlh:=Jq hhr
    have hls:=Jq hsr
    go_wp2_with fail
    refine KA (fun w'=>w'.cell? ⟨d,0,none⟩=some (.slice (some ⟨sg,0,none⟩) R.n sc)∧w'.cell? ⟨d,1,none⟩=some (.slice (some ⟨hg,0,none⟩) R.hs.length hc)∧w'.cell? ⟨hg,k*2,none⟩=some (.int .i64 (qa:Nat))∧w'.cell? ⟨hg,k*2+1,none⟩=some (.slice hqA hqn hqc)) 20 [(0,false),(1,false),(2,false),(3,false),(4,false),(5,false),(6,false),(7,false),(8,false),(9,false),(10,false),(11,false),(12,false),(13,false),(14,false),(15,false),(16,false),(17,false),(18,false),(19,false)]
     (by kernel_rfl) (by kernel_rfl) (fun _ _ d _ _ h=>by cases d <;> exact h) ⟨c0,c1,hx0,hx1⟩ ?_
    simp only [PI]
    iterate 20 (refine ZB ?_ (by rfl) ?_ ?_;rotate_left;(focus (rintro W ⟨hW1,hW2,hW3,hW4⟩;go_simp;try with_reducible rfl));simp only [Act.put,PU])
    refine ZC ?_
    have hs2:=XM hsr.drew qa (.slice hqA hqn hqc)
    have q0:=ZN hsr.drew qa
    have hkS:Keep [sg] wr (wr.drew.setCell ⟨sg,qa,none⟩ (.slice hqA hqn hqc)):=(Keep.refl _ _).drew.setCell (.inl (by simp)) _
    obtain ⟨u,hu⟩:∃ u,wr.drew.cell? ⟨sg,qa,none⟩=some u:=⟨_,VH hsr.drew (List.getElem?_eq_getElem (by rw [show sv.length=R.n by simpa using hsr.1];exact hat))⟩
    go_wp2_with fail
    go_roundw
    case rel=>exact ⟨k+1,_,by omega,by go_num,hbr.keep hkS (by simp;rintro rfl;exact hd1 (by simp [Value.ownBlock])),hs2,QB hhr hkS (fun x hx hm=>by simp at hm;subst hm;exact own_ne hhr hsr (by decide) hx rfl),hFr.trans hkS (fun x hx => .inl (by simp at hx;subst hx;rw [hfoot];simp [Value.ownBlock]))⟩
    case measure=>simp [intOf];omega
  · obtain rfl:R.hs.length=k:=by omega
    have q1:=hbr.frozen 1
    go_wp2_with fail
    go_ret
    exact ⟨rfl,hFr.trans ((Keep.refl [d] wr).setCell (p:=⟨d,1,none⟩) (.inl (by simp)) _) (fun x hx => .inl (by simp at hx;subst hx;rw [hfoot];simp))⟩
end
section
open Go.RowKit
def RDkNew (w:World) (base d:Nat) (F:List Nat) (n:Nat):Prop:=
 ∃ S U R,RDkIs w base d S (.slice none 0 0) U (.slice none 0 0) F R∧R.n=n∧R.hs=[]∧R.lv=[]∧R.asked=0∧∀ v∈R.sv,w.ownsRow base 5 1 v 64 (bys (List.replicate 64 0))
theorem RDkNew.keep0 {w w':World} {base d n:Nat} {F:List Nat} (h:RDkNew w base d F n) (hk:Keep [] w w'):RDkNew w' base d F n:=by
 obtain ⟨S,U,R,h1,h2,h3,h4,h5,h6⟩:=h
 exact ⟨S,U,R,h1.keep0 hk,h2,h3,h4,h5,fun v hv=>XB (h6 v hv) hk⟩
theorem RDkNew.at_ {w:World} {base d n:Nat} {F:List Nat} (h:RDkNew w base d F n):∃ R,RDkAt w base d F R∧R.n=n∧R.lv=[]∧R.asked=0:=by
 obtain ⟨S,U,R,h1,h2,h3,h4,h5,h6⟩:=h
 exact ⟨R,⟨_,_,_,_,h1⟩,h2,h4,h5⟩
theorem KAS (w:World) (base d n:Nat) (F:List Nat) (h:RDkNew w base d F n) (k:Nat) (hk:k<n) :
 Calls Tryz.prog 184 #[.pointer (some ⟨d,0,none⟩),.int .i64 (k:Nat)] w fun e w'=>∃ u,e = .returned (.tuple #[u,.int .i64 0])∧w'.ownsRow w.heap.size 5 1 u 64 (bys (List.replicate 64 0))∧Keep [] w w':=by
 obtain ⟨S,U,R,h,rfl,hhs,hlv,hask,hz⟩:=h
 obtain ⟨sg,sc,rfl,hsc,hc63⟩:=ZE h.safe h.pos
 obtain ⟨ug,uc,rfl,huc,huc63⟩:=ZE h.flt h.pos
 obtain ⟨c0,c1,c2,c3,c4,c5,c6⟩:=XF h.blk
 have hpos:=h.pos
 have hfew:=h.few
 have hW:=fun W=>YD (k:Nat) 0 ((R.n:Nat)-1) true (by simp;omega) W
 have hkI:((k:Nat):Int)<(R.n:Nat):=by omega
 have hcf:w.cell? ⟨ug,k,none⟩=some (.bool false):=VH h.flt (by rw [List.getElem?_replicate,if_pos hk])
 have hsl:k<R.sv.length:=by rw [show R.sv.length=R.n by simpa using h.safe.1];exact hk
 have hcs:w.cell? ⟨sg,k,none⟩=some R.sv[k]:=VH h.safe (List.getElem?_eq_getElem hsl)
 have hq:=hz R.sv[k] (List.getElem_mem _)
 generalize R.sv[k]=q at *
 obtain ⟨qg,qc,rfl,hqc⟩:=KG hq (by simp)
 have hP:=Yn (some ⟨qg,0,none⟩) 64 qc (List.replicate 64 0) 0 64 w (Rd.of_own hq) (by omega) (by omega) (by omega) (by simpa using hqc) (by omega)
 clear hz hhs hlv hask hsl h
 go_enter Tryz.func184,Tryz.ntmps184
 go_wp2_with (first | (go_at_call 75;refine (hW _).mono ?_;clear hW;rintro e w' ⟨rfl,rfl⟩))
 go_loopw [6,7] (fun b i wr=>b = .slice (some ⟨qg,0,none⟩) 64 qc∧i = .int .i64 0∧wr=w) (fun _ _ _=>0)
 case atStart=>exact ⟨by simp,rfl,rfl⟩
 case round=>
  obtain ⟨rfl,rfl,rfl⟩:=hrel
  go_wp2_with (refine hP.mono ?_;clear hP;rintro e w1 ⟨u,rfl,hu,hk1⟩)
  go_ret2
  exact ⟨_,rfl,by simpa using hu,hk1⟩
theorem elem8N:ElemN Tryz.prog 40 5 (.int .u8 0) 1 1:=ElemN.of Tryz.underlying40 (by kernel_rfl) rfl (by omega)
theorem Vy (n:Nat) (h0:0<n) (hn:n≤4096) (w:World) :
 Calls Tryz.prog 98 #[.int .i64 (n:Nat)] w fun e w'=>∃ d F,e = .returned (.pointer (some ⟨d,0,none⟩))∧RDkNew w' w.heap.size d F n∧Keep [] w w':=by
 have hW:=fun W=>YD (n:Nat) 1 4096 true (by simp;omega) W
 go_enter Tryz.func98,Tryz.ntmps98
 go_wp2_with (first
  | (go_at_call 75;refine (hW _).mono ?_;clear hW;rintro e w' ⟨rfl,rfl⟩)
  | (at_make;refine elemBool.wp_make rfl _ _ rfl .i64 .i64 n rfl rfl (by omega) (by omega) ?_;intro w1 g1 hg1 hs1 hb1 hk1;subst hg1))
 have hflt:w1.ownsRow w.heap.size 4 1 (.slice (some ⟨w.heap.size,0,none⟩) n n) n (List.replicate n (.bool false)):=VI (e:=4) (s:=1) (z := .bool false) hb1 (by omega) (by omega) (by omega) (by simp) rfl
 have hB:=Blk.new w1 237 #[.slice none 0 0,.slice none 0 0,.slice (some ⟨w.heap.size,0,none⟩) n n,.int .i64 (-1),.bool false,.int .i64 0,.slice none 0 0]
 have hkA:Keep [] w (w1.alloc (.cells #[.slice none 0 0,.slice none 0 0,.slice (some ⟨w.heap.size,0,none⟩) n n,.int .i64 (-1),.bool false,.int .i64 0,.slice none 0 0] 237)):=hk1.alloc _
 have hflt2:=ZD hflt (.cells #[.slice none 0 0,.slice none 0 0,.slice (some ⟨w.heap.size,0,none⟩) n n,.int .i64 (-1),.bool false,.int .i64 0,.slice none 0 0] 237)
 have hbs:w.heap.size≤w1.heap.size:=hk1.size
 generalize hwA:w1.alloc (.cells #[.slice none 0 0,.slice none 0 0,.slice (some ⟨w.heap.size,0,none⟩) n n,.int .i64 (-1),.bool false,.int .i64 0,.slice none 0 0] 237)=wA at *
 rw [hs1] at hB hbs
 clear hflt hk1 hs1 hb1
 obtain ⟨d,hd⟩:∃ d,d=w.heap.size+1:=⟨_,rfl⟩
 rw [← hd] at hB hbs
 go_wp2_with fail
 try rw [hwA]
 try rw [← hd]
 clear hwA
 have HD:=JC hd
 clear hd
 go_loopw [4] (fun i wr=>∃ (k:Nat) (S:Value) (sv:List Value),k≤n∧i = .int .i64 (k:Nat)∧Blk wr d 237 #[S,.slice none 0 0,.slice (some ⟨w.heap.size,0,none⟩) n n,.int .i64 (-1),.bool false,.int .i64 0,.slice none 0 0] ∧
  wr.ownsRow w.heap.size 40 1 S k sv∧wr.ownsRow w.heap.size 4 1 (.slice (some ⟨w.heap.size,0,none⟩) n n) n (List.replicate n (.bool false))∧Hid (∀ v∈sv,wr.ownsRow w.heap.size 5 1 v 64 (bys (List.replicate 64 0)))∧Keep [] w wr) (fun i _=>n-(intOf i).toNat)
 case atStart=>exact ⟨0,.slice none 0 0,[],Nat.zero_le _,rfl,hB,World.ownsRow_nil _ _ _ _,hflt2,(by show ∀ v∈([]:List Value),_;intro v hv;cases hv),hkA⟩
 case round=>
  clear hB hflt2 hkA
  obtain ⟨k,S,sv,hk,rfl,hbr,hsr,hur,hzr,hkr⟩:=hrel
  obtain ⟨c0,c1,c2,c3,c4,c5,c6⟩:=XF hbr
  by_cases hlt:k<n
  · have hltI:((k:Nat):Int)<(n:Nat):=by omega
    go_wp2_with fail
    refine KA (fun w'=>w'.cell? ⟨d,0,none⟩=some S) 8 [(0,false),(1,false),(2,false),(3,false),(4,false),(5,true),(6,true),(7,true)]
     (by kernel_rfl) (by kernel_rfl) (fun _ _ d _ _ h=>by cases d <;> exact h) c0 ?_
    simp only [PI]
    iterate 5 (refine ZB ?_ (by rfl) ?_ ?_;rotate_left;(focus (intro W hW;go_simp;try with_reducible rfl));simp only [Act.put,PU])
    refine KB (by rfl) (fun K hK=>?_)
    refine elem8N.wp1_make _ _ rfl .i64 .i64 64 rfl rfl (by omega) (by omega) ?_
    intro w2 g2 hg2 hs2 hb2 hk2
    obtain rfl:g2=wr.heap.size:=hg2
    clear hs2
    have hkB:Keep [] wr w2:=(Keep.refl _ _).drew.trans0 hk2
    have hz2:w2.ownsRow w.heap.size 5 1 (.slice (some ⟨wr.heap.size,0,none⟩) 64 64) 64 (bys (List.replicate 64 0)):=VI (e:=5) (s:=1) (z := .int .u8 0) hb2 (by omega) hkr.size (by omega) (by simp [bys,by8]) rfl
    refine hK _ _ ((XF (hbr.keep0 hkB)).1) ?_
    clear hK K
    try simp only [Act.put,PU]
    refine KB (by rfl) (fun K hK=>?_)
    go_wp2_with fail
    have hrd:=VL w2 (Value.slice (some ⟨wr.heap.size,0,none⟩) 64 64) 40
    have hkC:Keep [] wr (w2.alloc (.cells #[Value.slice (some ⟨wr.heap.size,0,none⟩) 64 64] 40)):=hkB.alloc _
    have hz3:=ZD hz2 (.cells #[Value.slice (some ⟨wr.heap.size,0,none⟩) 64 64] 40)
    generalize w2.alloc (.cells #[Value.slice (some ⟨wr.heap.size,0,none⟩) 64 64] 40)=w3 at *
    generalize w2.heap.size=n4 at *
    refine hK _ _ ((XF (hbr.keep0 hkC)).1) ?_
    clear hK K
    try simp only [Act.put,PU]
    refine KB (by rfl) (fun K hK=>?_)
    refine elemRows.wp1_app (.tmp 21) (.tmp 23) (by rfl) w.heap.size S k sv (by rfl) (XB hsr hkC) (some ⟨n4,0,none⟩) 1 1 [Value.slice (some ⟨wr.heap.size,0,none⟩) 64 64] (by rfl) hrd (by simp [Value.oneCell']) (by omega) (by omega) (Nat.le_trans hkr.size hkC.size) ?_
    intro S' w4 hS' hk4 hSb _
    have hdS:d∉S.ownBlock.toList:=fun hm=>own_blk_ne hsr hbr (by decide) (by simpa using hm)
    have hblk4:=(hbr.keep0 hkC).keep hk4 hdS
    refine hK _ _ ((XF hblk4).1) ?_
    clear hK K
    try simp only [Act.put,PU]
    refine ZC ?_
    have f0:=hblk4.frozen 0
    have j0:=(XF hblk4).1
    have hb5:=hblk4.set 0 S'
    have hk5:Keep [d] w4 (w4.setCell ⟨d,0,none⟩ S'):=(Keep.refl _ _).setCell (p:=⟨d,0,none⟩) (.inl (by simp)) _
    have hdS':d∉S'.ownBlock.toList:=fun hm=>by
     rcases hSb with e | e
     · rw [e] at hm;exact hdS hm
     · rw [e] at hm;simp at hm;have:=hbr.lt;have:=hkC.size;omega
    have hst:∀ {e:TypeId} {s n:Nat} {v:Value} {xs:List Value},w3.ownsRow w.heap.size e s v n xs→e≠40→e≠237→(w4.setCell ⟨d,0,none⟩ S').ownsRow w.heap.size e s v n xs:=fun hv he he2=>
     QB (QB hv hk4 (fun x hx hm=>own_ne hv (XB hsr hkC) he hx (by simpa using hm))) hk5 (fun x hx hm=>by simp at hm;subst hm;exact own_blk_ne hv (hbr.keep0 hkC) he2 hx)
    have hu5:=hst (XB hur hkC) (by decide) (by decide)
    have hz5:=hst hz3 (by decide) (by decide)
    have hzz:Hid (∀ v∈sv,(w4.setCell ⟨d,0,none⟩ S').ownsRow w.heap.size 5 1 v 64 (bys (List.replicate 64 0))):=fun v hv=>hst (XB (JA hzr v hv) hkC) (by decide) (by decide)
    have hS5:=QB hS' hk5 (fun x hx hm=>by simp at hm;subst hm;exact hdS' (by simpa using hx))
    have hkZ:Keep [] w (w4.setCell ⟨d,0,none⟩ S'):=((hkr.trans0 hkC).trans hk4 (fun x hx => .inr (own_mem hsr hx).1)).trans hk5 (fun x hx => .inr (by simp at hx;omega))
    obtain ⟨SA,sc,rfl,_⟩:=JB hS'
    go_wp2_with fail
    go_roundw
    case rel=>exact ⟨k+1,_,_,by omega,by go_num,by simpa using hb5,hS5,hu5,fun v hv=>by
     simp only [List.mem_append,List.mem_singleton] at hv
     rcases hv with hv | rfl
     · exact JA hzz v hv
     · exact hz5,hkZ⟩
    case measure=>simp [intOf];omega
  · obtain rfl:n=k:=by omega
    go_wp2_with fail
    go_ret
    obtain ⟨sg,sc,rfl,_⟩:=ZE hsr h0
    exact ⟨d,_,rfl,⟨_,_,⟨n,sv,[],[],0⟩,⟨hbr,hsr,World.ownsRow_nil _ _ _ _,hur,World.ownsRow_nil _ _ _ _,by simp [Value.ownBlock],rfl,hbs,h0,hn,by simp,⟨Nat.zero_le _,Nat.zero_le _⟩⟩,rfl,rfl,rfl,rfl,JA hzr⟩,hkr⟩
end
end Go.Proofs.YtmoagodllhdemaaGreat
