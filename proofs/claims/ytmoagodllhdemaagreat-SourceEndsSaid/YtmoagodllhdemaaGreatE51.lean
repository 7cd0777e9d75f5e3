/-
  A part of the proof: lemmas, and contracts of functions; their conditions stand in them.
-/
import Derived.Test.YtmoagodllhdemaaGreatE50
import Derived.Test.YtmoagodllhdemaaGreatE38
import Derived.Test.YtmoagodllhdemaaGreatE41
namespace Go.Proofs.YtmoagodllhdemaaGreat
set_option linter.unusedSimpArgs false
set_option linter.unusedVariables false
set_option maxHeartbeats 16000000
set_option maxRecDepth 100000
section
open Go.RowKit Go.Shelf
theorem JAJ (w:World):Calls Tryz.prog 34 #[.int .i64 11] w fun r w'=>r = .returned (.agg #[.int .i64 ((12:Nat):Int),.int .i64 8,.int .i64 24])∧Keep [] w w':=by
 have hR:=fun W=>VP 11 20 W (by omega) (by omega)
 go_enter Tryz.func34,Tryz.ntmps34
 go_wp2_with (refine (hR _).mono ?_;clear hR;rintro r w' ⟨rfl,rfl⟩)
 have hb:=Blk.new w 28 #[.int .i64 12,.int .i64 8,.int .i64 24]
 have g0:=hb.cell 0
 have g1:=hb.cell 1
 have g2:=hb.cell 2
 refine bodyPost_ret (v := .agg #[.int .i64 12,.int .i64 8,.int .i64 24]) (by simp [results,Tryz.results34,go_sem]) rfl ⟨rfl,(Keep.refl _ _).alloc _⟩
theorem XAO (x0 x1:Int) (A:Option Addr) (len cap:Nat) (zs:List Int) (w:World) (hz:Rd w A len (KP zs)) (hlen:len≤9223372036854775807) :
 Calls Tryz.prog 6 #[.int .i64 x0,.int .i64 x1,.slice A len cap] w fun e w'=>e = .returned (.bool true)∧Keep [] w w':=by
 by_cases hbig:(40:Int)<(len:Nat)
 · go_enter Tryz.func6,Tryz.ntmps6
   go_wp2_with (refine (Xk _).mono ?_;rintro e w' ⟨rfl,hk⟩)
   go_ret
   exact ⟨rfl,hk⟩
 have hl40:len≤40:=by omega
 obtain ⟨qn,hqn,hqnl⟩:∃ q:Nat,x0 % 16=(q:Int)∧q<16:=⟨(x0 % 16).toNat,by omega,by omega⟩
 have hRn:∀ W,Calls Tryz.prog 19 #[.int .i64 x0,.int .i64 16] W fun e w'=>e = .returned (.int .i64 (qn:Nat))∧W=w':=fun W=>by rw [← hqn];exact VP x0 16 W (by omega) (by omega)
 obtain ⟨qm,hqm,hqml⟩:∃ q:Nat,x1 % 16=(q:Int)∧q<16:=⟨(x1 % 16).toNat,by omega,by omega⟩
 have hRm:∀ W,Calls Tryz.prog 19 #[.int .i64 x1,.int .i64 16] W fun e w'=>e = .returned (.int .i64 (qm:Nat))∧W=w':=fun W=>by rw [← hqm];exact VP x1 16 W (by omega) (by omega)
 clear hqn hqm
 have hNS:Calls Tryz.prog 33 #[.int .i64 ((1:Nat):Int),.int .i64 ((1+qn:Nat):Int)] w _:=ZAA 1 (1+qn) (by omega) (by omega) w
 simp only [Int.natCast_add] at hNS
 have hY:=fun W=>JAF W 12 (by omega) (by omega)
 go_enter Tryz.func6,Tryz.ntmps6
 go_wp2_with (first
  | (go_at_call 19;refine (hRn _).mono ?_;clear hRn;rintro e w' ⟨rfl,rfl⟩)
  | (go_at_call 33
     refine hNS.mono ?_
     clear hNS
     rintro e w1 ⟨q,rfl,hQ⟩
     have hSm:=JAJ w1)
  | (go_at_call 34
     refine hSm.mono ?_
     clear hSm
     rintro e w2 ⟨rfl,hk2⟩
     have hY1:=hY w2
     clear hY)
  | (go_at_call 8
     refine hY1.mono ?_
     clear hY1
     rintro e w3 ⟨t,d,s,F,D,rfl,hYd⟩))
 obtain ⟨mm,xx,hbt,hst,hgood,htF,htn,hk3⟩:=id hYd
 have t2:w3.cell? ⟨t,2,none⟩=some (.pointer (some ⟨s,0,none⟩)):=by simpa using hbt.cell 2
 have hN4:∀ W,Keep [] w3 W→Calls Tryz.prog 10 #[.pointer (some ⟨s,0,none⟩),.int .i64 ((1+qm:Nat):Int)] W _:=fun W hk=>ZAn W _ s d F 12 (PS.fresh 12 D) (hst.keep0 hk) (by simp [PS.fresh]) (1+qm) (by omega) (by omega) rfl (by simp [PS.fresh]) (Nat.le_trans hk3.size hk.size)
 simp only [Int.natCast_add] at hN4
 refine KA (fun w'=>w'.cell? ⟨t,2,none⟩=some (.pointer (some ⟨s,0,none⟩))) 7 [(0,false),(1,false),(2,false),(3,false),(4,false),(5,true),(6,false)]
  (by kernel_rfl) (by kernel_rfl) (fun _ _ d _ _ h=>by cases d <;> exact h) t2 ?_
 simp only [PI]
 iterate 5 (refine ZB ?_ (by rfl) ?_ ?_;rotate_left;(focus (intro W hW;go_simp;try with_reducible rfl));simp only [Act.put,PU])
 refine KB (by rfl) (fun K hK=>?_)
 go_wp2_with (refine (hRm _).mono ?_;clear hRm;rintro e w' ⟨rfl,rfl⟩)
 refine hK _ _ (t2) ?_
 clear hK K
 try simp only [Act.put,PU]
 iterate 1 (refine ZB ?_ (by rfl) ?_ ?_;rotate_left;(focus (intro W hW;go_simp;try with_reducible rfl));simp only [Act.put,PU])
 refine ZC ?_
 have hkd:Keep [] w3 w3.drew:=(Keep.refl _ _).drew
 have hN5:=hN4 _ hkd
 clear hN4 t2
 go_wp2_with (first
  | (go_at_call 10
     refine hN5.mono ?_
     clear hN5
     rintro e w4 ⟨r,x,Fx,rfl,hr,hk4,hfr⟩
     have hQ4:=hQ.keep0 (((hk2.trans0 hk3).trans0 hkd).trans0 hk4)
     have hSd:=ZAa w w4 q 1 (1+qn) (by omega) hQ4 A len cap zs hz (by omega))
  | (go_at_call 35
     refine hSd.mono ?_
     clear hSd
     rintro e w5 ⟨OA,oc,L,os,oz,rfl,hQ5,hos,hoz,hO,hN⟩))
 have hE0:EAt w w5 w2.heap.size t r s d x q (1+qm) (1+qn) (VD zs len).2 len 0 w.heap.size OA oc oz zs F Fx (PS.fresh 12 D) L os:=by
  have h1:=hQ.lt
  have h2:=hk2.size
  have h3:=hk3.size
  have h4:=hk4.size
  simp only [World.size_drew] at h4
  have h5:=hN.keep.size
  have h6:=hQ.keep.size
  have hge:=hr.ge
  have hlt:=hr.lt
  have htl:=hbt.lt
  refine ⟨⟨⟨mm,xx,((hbt.keep0 hkd).keep0 hk4).keep hN.keep (by simp;omega)⟩,hr.keep hN.keep (fun y hy hm=>by simp at hm;have:=hge y hy;omega),by omega,by omega,fun hm=>(hfr t hm).elim htF (fun h=>by simp at h;omega),by omega,hQ5,fun hm=>by have:=hge q hm;omega,fun g hg hm=>by have:=hN.l g hg;have:=hlt g hm;omega,fun p hp g hg hm=>by have:=hN.o p hp g hg;have:=hlt g hm;omega,⟨hO.row,hO.data,hO.small,fun g hg hm=>?_,fun p hp g hg hm=>?_⟩⟩,by rw [hos,VV];rfl,ZAQ hgood rfl rfl rfl rfl rfl,rfl⟩
  · have:=hN.v g hg
    rcases List.mem_cons.1 hm with rfl | hm
    · omega
    · have:=hlt g hm;omega
  · have:=hN.z p hp g hg
    rcases List.mem_cons.1 hm with rfl | hm
    · omega
    · have:=hlt g hm;omega
 have HOZ:=JC hoz
 have hep:Hid ((VD zs len).2=(idl 12 (sOp zs) len).ep∧(VD zs len).2≤len):=JC ⟨(JAL zs len).symm,QZ zs len⟩
 generalize (VD zs len).2=ep at *
 generalize PS.fresh 12 D=S0 at *
 generalize w2.heap.size=base at *
 generalize w.heap.size=oB at *
 clear hoz hos hO hN hQ5 hQ4 hk4 hfr hr hkd hk3 hk2 htn htF hgood hst hbt hYd hQ
 go_loopw [14] (fun iv wr=>∃ (kc:Nat) (Fs Fx:List Nat) (S:PS) (L:Value) (os:List (Value×POp)),kc≤len+16∧iv = .int .i64 (kc:Nat)∧EAt w wr base t r s d x q (1+qm) (1+qn) ep len (min kc len) oB OA oc oz zs Fs Fx S L os) (fun iv _=>len+20-(intOf iv).toNat)
 case atStart=>exact ⟨0,F,Fx,S0,L,os,by omega,rfl,by simpa using hE0⟩
 case round=>
  clear hE0
  obtain ⟨kc,Fs,Fx,S,L,os,hkc,rfl,hE⟩:=hrel
  by_cases hlt:kc<len
  · rw [Nat.min_eq_left (by omega)] at hE
    have hSn:=QAg w wr base t r s d x q (1+qm) (1+qn) ep len kc oB OA oc oz zs Fs Fx S L os hE (by omega) (by omega) hl40 (by omega)
    rw [show kc+min (1+qn) (len-kc)=min (kc+(1+qn)) len by omega] at hSn
    go_wp2_with (refine hSn.mono ?_;clear hSn;rintro e w6 ⟨rfl,Fs',Fx',S',L',os',hE6⟩)
    go_roundw
    case rel=>exact ⟨kc+(1+qn),Fs',Fx',S',L',os',by omega,by go_num,hE6⟩
    case measure=>simp [intOf];omega
  · rw [Nat.min_eq_right (by omega)] at hE
    have hB17:Calls Tryz.prog 24 #[.pointer (some ⟨s,0,none⟩),.int .i64 ((12:Nat):Int)] wr _:=YAG wr _ s d Fs 12 S hE.st.rep.st len (2*len) hE.stm.good
    have t2:=hE.st.cells
    go_wp2_with (refine hB17.mono ?_;clear hB17;rintro e w6 ⟨VB,rfl,hVB,hk6⟩)
    obtain ⟨VA,va,lsB,rfl,_,_,_⟩:=id hVB
    generalize (QL 12 S).length=nB at *
    have hE6:=hE.keep0 hk6
    have hkw6:Keep [] w w6:=hE6.st.src.keep
    obtain ⟨dn,hdn⟩:∃ dn,dn=(idl 12 (sOp zs) len).done:=⟨_,rfl⟩
    have hb1:=hE.stm.base
    have hbl:(QL 12 S).length=12:=by rw [hb1];exact (Vn 12 (sOp zs) len).1
    have hAck:∀ W,Keep [] w6 W→Calls Tryz.prog 37 #[.pointer (some ⟨q,0,none⟩)] W fun e w'=>e = .returned (.int .i64 (len:Nat))∧W=w':=fun W hk=>XAA w W q 1 (1+qn) ep len len _ L os (hE6.st.src.keep0 hk)
    have hDn:∀ W,Keep [] w6 W→Calls Tryz.prog 38 #[.pointer (some ⟨q,0,none⟩)] W fun e w'=>e = .returned (.int .i64 (dn:Nat))∧W=w':=fun W hk=>by rw [hdn];exact XAR w W q 1 (1+qn) ep len len _ L os (hE6.st.src.keep0 hk)
    have hEp:∀ W,Keep [] w6 W→Calls Tryz.prog 39 #[.pointer (some ⟨q,0,none⟩)] W fun e w'=>e = .returned (.int .i64 (ep:Nat))∧W=w':=fun W hk=>YAB w W q 1 (1+qn) ep len len _ L os (hE6.st.src.keep0 hk)
    have hSta:∃ p0 p1 p5 p6 p7 p8 p9:Int,∀ W,Keep [] w6 W→Calls Tryz.prog 17 #[.pointer (some ⟨s,0,none⟩)] W fun e w'=>e = .returned (.agg #[.int .i64 p0,.int .i64 p1,.int .i64 ((ep:Nat):Int),.int .i64 ((len:Nat):Int),.int .i64 ((dn:Nat):Int),.int .i64 p5,.int .i64 p6,.int .i64 p7,.int .i64 p8,.int .i64 p9])∧Keep [] W w':=
     ⟨(S.st.mode:Nat),(S.st.view:Nat),(S.st.mount:Nat),(S.st.gen:Nat),(QE S.us:Nat),(KAi S:Nat),(YI S.I.ol:Nat),fun W hk=>by
       have h:=JP W _ s d Fs 12 S (hE6.st.rep.keep0 hk).st
       rw [hE.stm.epoch,hE.stm.seq,hE.stm.done,Zh,← hdn,← (JA hep).1] at h
       exact h⟩
    obtain ⟨p0,p1,p5,p6,p7,p8,p9,hSta⟩:=hSta
    have hosl:os.length≤500:=by have:=hE.st.src.len;omega
    have hOut:∀ W,Keep [] w6 W→Calls Tryz.prog 40 #[.pointer (some ⟨q,0,none⟩)] W fun e w'=>∃ UA uc,e = .returned (.slice UA 0 uc)∧Keep [] W w':=fun W hk=>by
     refine (Jz w W q 1 (1+qn) ep len len _ L os (hE6.st.src.keep0 hk) hosl (by omega) (by omega) (fun i o ho=>Jm zs len 1 (by omega) (by omega) _ i o (by rw [VV,← hE.os];exact ho))).mono ?_
     rintro e w' ⟨UA,m,c,us,rfl,h1,_,h2,h3⟩
     rw [VAC hE.os (Jd 12 (sOp zs) len).1 (Nat.le_refl _)] at h2
     have hm:m=0:=by
      have e1:us.length=m:=by simpa using h1.1
      have e2:us.length=0:=by have h:=congrArg List.length h2;rw [List.length_map] at h;rw [h];simp
      omega
     subst hm
     exact ⟨UA,c,rfl,h3⟩
    have hFo:∀ W,Keep [] w6 W→Calls Tryz.prog 41 #[.int .i64 ((12:Nat):Int),.int .i64 (ep:Nat),.slice OA len oc] W fun e w'=>∃ (UA:Option Addr) (n c:Nat) (ls:List (Value×List UInt8)),e = .returned (.slice UA n c)∧Rws w' UA n ls∧ls.map (·.2)=QL 12 S∧n≤64∧Keep [] W w':=fun W hk=>by
     refine (VAi W 12 len ep (by omega) (by omega) (by have:=(JA hep).2;omega) (sOp zs) (KAU zs (by omega)) (fun j hj=>VAL zs (by omega)) OA oc oB _ oz (hE6.st.ob.keep0 hk) (by rw [JA HOZ,VV])).mono ?_
     rintro e w' ⟨_,rfl,UA,n,c,ls,j,rfl,h1,h2,h3,h4,h5,h6⟩
     refine ⟨UA,n,c,ls,rfl,h1,?_,h3,h6⟩
     rw [h2,hb1]
     exact QAM h4 (by rw [← (JA hep).1];exact h5)
    have hf3:=fun W=>JF (P:=Tryz.prog) Tryz.underlying51 3 rfl Tryz.isAgg3 #[.int .i64 p0,.int .i64 p1,.int .i64 ((ep:Nat):Int),.int .i64 ((len:Nat):Int),.int .i64 ((dn:Nat):Int),.int .i64 p5,.int .i64 p6,.int .i64 p7,.int .i64 p8,.int .i64 p9] rfl W
    have hf4:=fun W=>JF (P:=Tryz.prog) Tryz.underlying51 4 rfl Tryz.isAgg3 #[.int .i64 p0,.int .i64 p1,.int .i64 ((ep:Nat):Int),.int .i64 ((len:Nat):Int),.int .i64 ((dn:Nat):Int),.int .i64 p5,.int .i64 p6,.int .i64 p7,.int .i64 p8,.int .i64 p9] rfl W
    have hf2:=fun W=>JF (P:=Tryz.prog) Tryz.underlying51 2 rfl Tryz.isAgg3 #[.int .i64 p0,.int .i64 p1,.int .i64 ((ep:Nat):Int),.int .i64 ((len:Nat):Int),.int .i64 ((dn:Nat):Int),.int .i64 p5,.int .i64 p6,.int .i64 p7,.int .i64 p8,.int .i64 p9] rfl W
    have hcl:∀ W,Keep [] w6 W→W.cell? ⟨t,2,none⟩=some (.pointer (some ⟨s,0,none⟩)):=fun W hk=>(hE6.st.keep0 hk).cells
    have HB1:=JC hb1
    clear hb1 hdn t2
    refine KA (fun w'=>w'.cell? ⟨t,2,none⟩=some (.pointer (some ⟨s,0,none⟩))) 53 [(0,false),(1,false),(2,false),(4,false),(5,false),(3,true),(6,false),(7,false),(8,false),(9,false),(10,false),(11,false),(12,false),(15,false),(16,false),(13,true),(14,false),(17,false),(18,false),(19,false),(20,false),(22,false),(23,false),(24,false),(25,false),(21,true),(26,true),(27,false),(28,false),(29,false),(30,false),(31,false),(32,false),(33,false),(34,false),(37,false),(35,true),(36,false),(38,true),(39,false),(40,false),(41,false),(42,false),(43,true),(44,false),(45,false),(46,false),(47,false),(48,false),(49,false),(51,false),(50,true),(52,true)]
     (by kernel_rfl) (by kernel_rfl) (fun _ _ d _ _ h=>by cases d <;> exact h) (hcl _ (Keep.refl _ _).drew) ?_
    simp only [PI]
    iterate 5 (refine ZB ?_ (by rfl) ?_ ?_;rotate_left;(focus (intro W hW;go_simp;try with_reducible rfl));simp only [Act.put,PU])
    have hkA:Keep [] w6 w6.drew:=(Keep.refl _ _).drew
    refine KB (by rfl) (fun K hK=>?_)
    go_wp2_with (refine (hAck _ hkA).mono ?_;clear hAck;rintro e w' ⟨rfl,rfl⟩)
    refine hK _ _ ((hcl _ hkA)) ?_
    clear hK K
    try simp only [Act.put,PU]
    iterate 9 (refine ZB ?_ (by rfl) ?_ ?_;rotate_left;(focus (intro W hW;go_simp;try with_reducible rfl));simp only [Act.put,PU])
    refine KB (by rfl) (fun K hK=>?_)
    go_wp2_with (refine (hSta _ hkA).mono ?_;rintro e w7 ⟨rfl,hk7⟩)
    replace hk7:=hkA.trans0 hk7
    refine hK _ _ ((hcl _ hk7)) ?_
    clear hK K
    try simp only [Act.put,PU]
    iterate 9 (refine ZB ?_ (by rfl) ?_ ?_;rotate_left;(focus (intro W hW;go_simp;try with_reducible rfl));simp only [Act.put,PU])
    refine KB (by rfl) (fun K hK=>?_)
    go_wp2_with (refine (hDn _ hk7).mono ?_;clear hDn;rintro e w' ⟨rfl,rfl⟩)
    refine hK _ _ ((hcl _ hk7)) ?_
    clear hK K
    try simp only [Act.put,PU]
    refine KB (by rfl) (fun K hK=>?_)
    go_wp2_with (refine (hSta _ hk7).mono ?_;rintro e w8 ⟨rfl,hk8⟩)
    replace hk8:=hk7.trans0 hk8
    refine hK _ _ ((hcl _ hk8)) ?_
    clear hK K
    try simp only [Act.put,PU]
    iterate 9 (refine ZB ?_ (by rfl) ?_ ?_;rotate_left;(focus (intro W hW;go_simp;try with_reducible rfl));simp only [Act.put,PU])
    refine KB (by rfl) (fun K hK=>?_)
    go_wp2_with (refine (hSta _ hk8).mono ?_;clear hSta;rintro e w9 ⟨rfl,hk9⟩)
    replace hk9:=hk8.trans0 hk9
    refine hK _ _ ((hcl _ hk9)) ?_
    clear hK K
    try simp only [Act.put,PU]
    iterate 1 (refine ZB ?_ (by rfl) ?_ ?_;rotate_left;(focus (intro W hW;go_simp;try with_reducible rfl));simp only [Act.put,PU])
    refine KB (by rfl) (fun K hK=>?_)
    go_wp2_with (refine (hEp _ hk9).mono ?_;rintro e w' ⟨rfl,rfl⟩)
    refine hK _ _ ((hcl _ hk9)) ?_
    clear hK K
    try simp only [Act.put,PU]
    iterate 4 (refine ZB ?_ (by rfl) ?_ ?_;rotate_left;(focus (intro W hW;go_simp;try with_reducible rfl));simp only [Act.put,PU])
    refine KB (by rfl) (fun K hK=>?_)
    go_wp2_with (refine (hOut _ hk9).mono ?_;clear hOut;rintro e w10 ⟨XA,xc,rfl,hk10⟩)
    replace hk10:=hk9.trans0 hk10
    refine hK _ _ ((hcl _ hk10)) ?_
    clear hK K
    try simp only [Act.put,PU]
    iterate 7 (refine ZB ?_ (by rfl) ?_ ?_;rotate_left;(focus (intro W hW;go_simp;try with_reducible rfl));simp only [Act.put,PU])
    refine KB (by rfl) (fun K hK=>?_)
    go_wp2_with (refine (hEp _ hk10).mono ?_;clear hEp;rintro e w' ⟨rfl,rfl⟩)
    refine hK _ _ ((hcl _ hk10)) ?_
    clear hK K
    try simp only [Act.put,PU]
    refine KB (by rfl) (fun K hK=>?_)
    go_wp2_with (refine (hFo _ hk10).mono ?_;clear hFo;rintro e w11 ⟨YA,yn,yc,ls,rfl,hy,hls,hyn,hk11⟩)
    replace hk11:=hk10.trans0 hk11
    refine hK _ _ ((hcl _ hk11)) ?_
    clear hK K
    try simp only [Act.put,PU]
    refine ZC ?_
    obtain ⟨e1,lb,hlb,hrb⟩:=(hVB.keep0 hk11).rws
    have hCmp:Calls Tryz.prog 26 #[.slice VA nB va,.slice YA yn yc] w11 fun e w'=>e = .returned (.bool true)∧Keep [] w11 w':=by
     refine (JAI VA YA nB yn va yc lb ls w11 hrb hy (by omega) (by omega)).mono ?_
     rintro e w' ⟨rfl,k,rfl⟩
     exact ⟨by rw [hlb,hls];simp,Keep.ofDrewN k⟩
    clear hlb hls hrb e1
    go_wp2_with (first
     | (go_at_call 26
        refine hCmp.mono ?_
        clear hCmp
        rintro e w12 ⟨rfl,hk12⟩)
     | (go_at_call 32;refine (Xk _).mono ?_;rintro e w13 ⟨rfl,hk13⟩))
    go_ret
    exact ⟨rfl,((hkw6.trans0 hk11).trans0 hk12).trans0 hk13⟩
end
end Go.Proofs.YtmoagodllhdemaaGreat
