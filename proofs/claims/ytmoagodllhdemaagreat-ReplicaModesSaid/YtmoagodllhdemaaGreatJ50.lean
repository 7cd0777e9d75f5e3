/-
  A part of the proof: lemmas, and contracts of functions; their conditions stand in them.
-/
import Derived.LaidEqlPtr
import Derived.Test.YtmoagodllhdemaaGreatJ49
import Derived.Test.YtmoagodllhdemaaGreatJ40
import Derived.Test.YtmoagodllhdemaaGreatJ10
import Derived.Test.YtmoagodllhdemaaGreatJ43
namespace Go.Proofs.YtmoagodllhdemaaGreat
set_option maxHeartbeats 16000000
set_option maxRecDepth 100000
section
open Go.RowKit Go.Shelf
def ZAj (t d s gS:Nat) (n0 n1 n2 n3 n4 n5 n6 n7 n8 n9:Int) (W:World):Prop:=
 (W.cell? ⟨t,0,none⟩=some (.pointer (some ⟨d,0,none⟩))∧W.cell? ⟨t,2,none⟩=some (.pointer (some ⟨s,0,none⟩)))∧(W.cell? ⟨gS,0,none⟩=some (.int .i64 n0)∧W.cell? ⟨gS,1,none⟩=some (.int .i64 n1)∧W.cell? ⟨gS,2,none⟩=some (.int .i64 n2)∧W.cell? ⟨gS,3,none⟩=some (.int .i64 n3)∧W.cell? ⟨gS,4,none⟩=some (.int .i64 n4)∧W.cell? ⟨gS,5,none⟩=some (.int .i64 n5)∧W.cell? ⟨gS,6,none⟩=some (.int .i64 n6)∧W.cell? ⟨gS,7,none⟩=some (.int .i64 n7)∧W.cell? ⟨gS,8,none⟩=some (.int .i64 n8)∧W.cell? ⟨gS,9,none⟩=some (.int .i64 n9))
theorem Zv (b:Nat) (cs:List Value) (hl:cs.length=10) (h1:∀ u∈cs,u.oneCell'=true) (W:World) (h:W.there b 0 10):(Instr.storeAt 51 (.pointer (some ⟨b,0,none⟩)) (.agg cs.toArray)).run Tryz.prog W = .ok () (W.setCells b 0 cs):=
 run_storeAt_mid W b 0 51 cs.toArray (by simpa [hl] using h) (by rw [List.size_toArray,hl];kernel_rfl) (all_oneCell_toArray h1)
theorem JAm (s:Nat) (W:World):(binOp .eql 34 (.pointer (some ⟨s,0,none⟩)) (.pointer (some ⟨s,0,none⟩))).run Tryz.prog W = .ok (.bool true) W:=by
 obtain ⟨j,hj⟩:=Option.isSome_iff_exists.1 (show (Tryz.prog.info? 119).isSome=true by kernel_rfl)
 exact run_eql_ptr_same (te:=119) W _ (by kernel_rfl) hj
theorem JAY (r:Nat) (W:World):Calls Tryz.prog 12 #[.pointer (some ⟨r,0,none⟩),.slice (some ⟨W.heap.size,0,none⟩) 2 2] (W.alloc (.cells #[.int .u8 1,.int .u8 2] 5)) fun e w'=>e = .returned (.tuple #[.slice none 0 0,.int .i64 2])∧Keep [] W w':=by
 have h:Rd (W.alloc (.cells #[.int .u8 1,.int .u8 2] 5)) (some ⟨W.heap.size,0,none⟩) 2 (bys [1,2]):=by
  have:=Rd.of_blk (n:=2) (Blk.new W 5 #[.int .u8 1,.int .u8 2]) (by simp)
  simpa [bys,by8] using this
 refine (Zx r _ 2 2 _ (Xy _ 2 2 [1,2] _ h (by omega))).mono ?_
 rintro e w' ⟨rfl,hk⟩
 exact ⟨rfl,((Keep.refl _ _).alloc _).trans0 hk⟩
def Kq (t r s d x z:Nat) (w:World):Prop:=
 (∀ W,Keep [] w W→W.cell? ⟨t,0,none⟩=some (.pointer (some ⟨d,0,none⟩))∧W.cell? ⟨t,2,none⟩=some (.pointer (some ⟨s,0,none⟩)))∧Unready r z w∧Blk w r 104 #[.pointer (some ⟨s,0,none⟩),.pointer (some ⟨x,0,none⟩)] ∧
   (∃ n0 n1 n2 n3 n4 n5 n6 n7 n8 n9:Int,∀ W,Keep [] w W→Calls Tryz.prog 17 #[.pointer (some ⟨s,0,none⟩)] W fun e w'=>e = .returned (.agg #[.int .i64 n0,.int .i64 n1,.int .i64 n2,.int .i64 n3,.int .i64 n4,.int .i64 n5,.int .i64 n6,.int .i64 n7,.int .i64 n8,.int .i64 n9])∧Keep [] W w') ∧
   ∃ ac:Nat,∀ W,Keep [] w W→Calls Tryz.prog 18 #[.pointer (some ⟨d,0,none⟩)] W fun e w'=>e = .returned (.int .i64 (ac:Nat))∧W=w'
theorem JAK (A:Option Addr) (len cap:Nat) (zs:List (Int×Int×Int)) (view seq:Int) (off:Bool) (w:World) (hz:PartsAt w A len zs) (hlen:len≤9223372036854775807) :
 Calls Tryz.prog 3 #[.slice A len cap,.int .i64 view,.int .i64 seq,.bool off] w fun e w'=>e = .returned (.bool true)∧Keep [] w w':=by
 by_cases hbig:(20:Int)<(len:Nat)
 · go_enter Tryz.func3,Tryz.ntmps3
   go_wp2_with (refine (Ki _).mono ?_;rintro e w' ⟨rfl,hk⟩)
   go_ret
   exact ⟨rfl,hk⟩
 have hl30:len≤20:=by omega
 have hSm:=JAG 9 w
 have hY:=fun W B h1 h2=>Yp W B h1 h2
 go_enter Tryz.func3,Tryz.ntmps3
 go_wp2_with (first
  | (go_at_call 9
     refine hSm.mono ?_
     clear hSm
     rintro e w1 ⟨B,rfl,hB,hB1,hB2,hk1⟩
     have HB10:=KB (show ((B:Nat):Int)=10 by omega)
     have hkA:Keep [] w w1:=hk1
     have hY1:=hY w1 B hB1 (by omega)
     clear hY hB)
  | (go_at_call 8
     refine hY1.mono ?_
     clear hY1
     rintro e w2 ⟨t,d,s,F,D,rfl,hYd⟩
     obtain ⟨mm,xx,hbt,hst,hgood,_,_,hk2⟩:=id hYd
     have t0:w2.cell? ⟨t,0,none⟩=some (.pointer (some ⟨d,0,none⟩)):=by simpa using hbt.cell 0
     have t2:w2.cell? ⟨t,2,none⟩=some (.pointer (some ⟨s,0,none⟩)):=by simpa using hbt.cell 2
     have hN4:Calls Tryz.prog 10 #[.pointer (some ⟨s,0,none⟩),.int .i64 4] w2 _:=XAT w2 _ s d F B (PS.fresh B D) hst (by simp [PS.fresh]) 4 (by omega) (by omega) rfl (by simp [PS.fresh]) hk2.size
     have htl:=hbt.lt)
  | (go_at_call 10
     refine hN4.mono ?_
     clear hN4
     rintro e w3 ⟨r,x,Fx,rfl,hr,hk3,hfr⟩
     have hL3:=LawSt.new hYd hr hk3 hfr
     have hkB:=hkA.trans0 hL3.kept
     have hOp:=ZAm w3 B ⟨hB1,by omega⟩ A len cap zs (hz.keep0 hkB) (by omega)
     rw [XA HB10] at hOp)
  | (go_at_call 11
     refine hOp.mono ?_
     clear hOp
     rintro e w4 ⟨OA,oc,oz,rfl,hoz,hO,hk4⟩
     have hL4:=hL3.keep0 hk4
     have hO4:=hO.apart hL3.rep.lt))
 have hgen:Hid ((PS.fresh B D).st.gen=1):=KB rfl
 have hext:Ext B (PS.fresh B D):=ZAV B D
 have hF0:(PS.fresh B D).st.view=1∧(PS.fresh B D).st.seq=0∧(PS.fresh B D).st.epoch=0:=⟨rfl,rfl,rfl⟩
 have hozl:oz.length=len:=by have:=congrArg List.length hoz;rwa [List.length_map,JAF] at this
 have HOZ:=KB hoz
 have HOL:=KB hozl
 generalize PS.fresh B D=S at *
 generalize w1=wA at *
 clear hoz hozl hL3 hO hk4 hk3 hk2 hfr hr t0 t2 hYd hbt hst htl hkB
 have hEx:Ext B S:=hext
 go_loopw [13] (fun i wr=>∃ (k:Nat) (Fs Fx:List Nat) (S:PS),k≤len∧i = .int .i64 (k:Nat)∧LawSt wA wr B t r s d x Fs Fx ⟨S,k+1,KD 4⟩∧Hid (S.st.view=1∧S.st.seq=k∧S.st.epoch=(JQ B zs k).2)∧Good B S k (2*k)∧Ext B S∧Hid (S.st.gen=1)∧OHold wr w3.heap.size (YP r Fs Fx) (.slice OA len oc) oz) (fun i _=>len-(intOf i).toNat)
 case atStart=>exact ⟨0,F,Fx,S,by omega,rfl,hL4,hF0,hgood,hEx,hgen,hO4⟩
 case round=>
  clear hL4 hF0 hgood hEx hext hgen hO4
  obtain ⟨k,Fs,Fx,S,hk,rfl,hL,hst,hg,hx,hgn,hO⟩:=hrel
  by_cases hlt:k<len
  · have hkz:k<oz.length:=by rw [XA HOL];exact hlt
    obtain ⟨pv,hpv⟩:∃ p,p=oz[k]:=⟨_,rfl⟩
    have hop:pv.2=(JM B (zs.getD k (0,0,0)) (JQ B zs k).2).1:=by
     have h1:(oz.map (·.2))[k]? = some pv.2:=by rw [List.getElem?_map,List.getElem?_eq_getElem hkz,hpv];rfl
     rw [XA HOZ,JAf B zs len k hlt] at h1
     exact (Option.some.inj h1).symm
    have hepk:=YAS B zs k
    obtain ⟨hfor,k1,b1,c1,e1,xs,hpo,hmay,hfor2⟩:=QAM B ⟨hB1,by omega⟩ (zs.getD k (0,0,0)) (JQ B zs k).2 (by omega)
    have hep:=JAP B (zs.getD k (0,0,0)) (JQ B zs k).2
    have hnx:=VAe B zs k
    rw [← hop] at hpo hfor hep
    rw [← hnx] at hep
    have hda:=hO.data pv (by rw [hpv];exact List.getElem_mem hkz)
    have hrdO:=hO.rd (A:=OA) (c:=oc) (by rw [XA HOL])
    rw [XA HOL] at hrdO
    obtain ⟨ob,oo,hOA,hobl,o0,o1,o2,o3,o4⟩:=hrdO.at_ hlt hkz
    rw [← hpv] at o0 o1 o2 o3 o4
    obtain ⟨DV,po⟩:=pv
    simp only at hpo hda o0 o1 o2 o3 o4 hop hfor hep
    subst hpo
    simp only at hda o0 o1 o2 o3 o4 hep
    obtain ⟨DA,dc,rfl,_,hdc,_⟩:=ZB hda
    have hE2:(JQ B zs (k+1)).2=VBA k1 (JQ B zs k).2∧(k1=3→e1=(JQ B zs k).2+1):=by
     unfold VBA
     rcases hep with ⟨h1,h2,h3⟩ | ⟨h1,h2⟩
     · have:k1=3:=by omega
       exact ⟨by rw [if_pos this,h3],fun _=>by omega⟩
     · have:¬ k1=3:=by omega
       exact ⟨by rw [if_neg this,h2],fun h=>absurd h this⟩
    have HE2:=KB hE2
    have hW:Calls Tryz.prog 13 #[.int .i64 ((1:Nat):Int),.int .i64 (((k+1:Nat)):Int),.agg #[.int .i64 k1,.int .i64 b1,.int .i64 c1,.int .i64 e1,.slice DA xs.length dc]] wr _:=Jh 1 (k+1) k1 b1 c1 e1 xs.length dc DA xs (by omega) (by omega) hmay wr (Rd.of_own hda) (by omega)
    rw [Int.natCast_add] at hW
    have HOP:=KB hop
    have HPV:=KB hpv
    have HEP:=KB hep
    have HNX:=KB hnx
    have HOA:=KB hOA
    clear hop hpv hep hnx hE2 hrdO
    subst hOA
    obtain ⟨n1,hn1⟩:∃ n,n=xs.length:=⟨_,rfl⟩
    rw [← hn1] at hW hmay hda o4
    have HN1:=KB hn1
    have hn64:n1≤64:=by rcases hmay with ⟨_,_,_,_,h⟩ | ⟨_,_,_,_,_,h⟩ | ⟨_,_,_,_,_,h⟩ <;> omega
    clear hn1
    go_wp2_with (first
     | (go_at_call 13
        refine hW.mono ?_
        clear hW
        rintro e w5 ⟨u,rfl,hu,hk5⟩
        obtain ⟨UA,uc,rfl,_⟩:=ZB hu
        have hT:=(hL.keep0 hk5).step (by omega) (XA hst) hg (by omega) k1 b1 c1 e1 n1 xs UA uc (Rd.of_own hu) hmay (XA HN1).symm hfor2 hfor (XA HE2).2)
     | (go_at_call 12
        refine hT.mono ?_
        clear hT
        rintro e w6 ⟨VA,vc,Fs',Fx',S',rfl,_,hL6,hst6,_,hg6,hdo6,hk6,hgr6⟩))
    go_roundw
    case rel=>
     refine ⟨k+1,Fs',Fx',S',by omega,by go_num,hL6,?_,hg6,hdo6.ext hfor hg (by omega) (by omega) hx,?_,(hO.keep0 hk5).turn hk6 (fun y hy=>hy) hgr6⟩
     · show _∧_∧_
       rw [(XA HE2).1]
       exact hst6
     · show S'.st.gen=1
       rw [← XA hgn]
       exact hdo6.gen
    case measure=>simp [intOf];omega
  · obtain rfl:k=len:=by omega
    clear HOZ HOL hO
    obtain ⟨hv,hsq,hpe⟩:=XA hst
    have hgn':=XA hgn
    clear hst
    have hRa:=JAQ wr wA.heap.size s d Fs B S hL.rep.st k (2*k) hg hx (by omega) hL.rep.mode (by omega) 7 2 (by omega) (by omega) (.inr rfl)
    obtain ⟨qv,hqv,hqvl⟩:∃ q:Nat,view % 20=(q:Int)∧q<20:=⟨(view % 20).toNat,by omega,by omega⟩
    obtain ⟨qs,hqs,hqsl⟩:∃ q:Nat,seq % 60=(q:Int)∧q<60:=⟨(seq % 60).toNat,by omega,by omega⟩
    have HQV:=KB hqv
    have HQS:=KB hqs
    clear hqv hqs
    obtain ⟨y0,y2⟩:=hL.cells
    obtain ⟨mm,xx,hbt⟩:=hL.two
    have OFF:off=true∨off=false:=by cases off <;> simp
    rcases OFF with rfl | rfl
    rotate_left
    all_goals
     go_wp2_with
      (go_at_call 14
       refine hRa.mono ?_
       clear hRa
       rintro e w5 ⟨rfl,Fs5,S5,hs5,hR5,hk5,hg5⟩
       have hgd5:=hR5.good hg hx (by omega)
       have hmo5:S5.st.mode=2:=by rw [hgd5.2.2.2.2.1]
       have hac5:S5.D.acts≤1000000000:=by have:=hgd5.1.cap.acts;omega
       obtain ⟨hdF,han5,hfu5⟩:=hs5.offs hac5
       have htF:t∉Fs:=fun hm=>hL.tn (by simp [YP,hm])
       have htd:t∉[d]:=fun hm=>by
        simp at hm;subst hm
        exact (hg5 _ hdF).elim htF (by have:=hL.lt;omega)
       have hrd:r∉[d]:=fun hm=>by
        simp at hm;subst hm
        exact (hg5 _ hdF).elim hL.rep.rs (by have:=hL.rep.blk.lt;omega)
       have hbt5:=hbt.keep hk5 htF
       have hbr5:=hL.rep.blk.keep hk5 hL.rep.rs
       have hkw5:Keep [] wA w5:=hL.kept.trans hk5 (fun y hy => .inr (hL.rep.st.ge y hy))
       have y0:w5.cell? ⟨t,0,none⟩=some (.pointer (some ⟨d,0,none⟩)):=by simpa using hbt5.cell 0
       clear hgd5)
    all_goals (
     have hd0:wA.heap.size≤d:=by
      obtain ⟨_,_,_,_,_,_,_,_,_,_,h2,_⟩:=hs5
      exact h2.log.disk.ge d (by obtain ⟨D1,D2,D3,D4,hd⟩:=h2.log.disk;rw [hd.foot];simp)
     have hTL:Kq t r s d x 7 w5:=⟨fun W hk=>⟨by simpa using (hbt5.keep0 hk).cell 0,by simpa using (hbt5.keep0 hk).cell 2⟩,KAB w5 wA.heap.size r s d x Fs5 B S5 hbr5 hs5 hmo5,hbr5,⟨_,_,_,_,_,_,_,_,_,_,fun W hk=>(han5 W hk).1⟩,
      ⟨S5.D.acts,fun W hk=>by
        obtain ⟨g,tt,p,m,Fd,Ft,Fw,Fm,L0,L1,h2,hf⟩:=hs5.keep0 hk
        exact XAR W _ d Fd S5.D h2.log.disk⟩⟩
     clear hL hg hx hR5 hsq hpe hgn' hgn hs5 y2)
    · obtain ⟨w6,hw6⟩:∃ w6,w6=w5:=⟨_,rfl⟩
      have hfin:∀ W,Keep [] w6 W→Keep [] w W:=fun W hk=>hkA.trans0 (hkw5.trans0 (by rw [hw6] at hk;exact hk))
      rw [← hw6] at hTL y0 ⊢
      clear hw6 hbt5 hbr5 hkw5 hk5 hg5 hfu5 han5
      go_wp2_with fail
      obtain ⟨hcl,hUn,hbr,⟨n0,n1,n2,n3,n4,n5,n6,n7,n8,n9,hSa⟩,ac,hAc⟩:=hTL
      refine wp_region_rt (fun w'=>w'.cell? ⟨t,0,none⟩=some (.pointer (some ⟨d,0,none⟩))∧w'.cell? ⟨t,2,none⟩=some (.pointer (some ⟨s,0,none⟩))) 11 (.held 0 (.held 1 (.held 2 (.held 3 (.held 5 (.held 6 (.held 7 (.held 8 (.two 4 (.two 9 (.loud 10 .nil) 10 (.loud 9 .nil)) 10 (.loud 4 (.loud 9 .nil)))))))))))
       (by kernel_rfl) (by kernel_rfl) (fun _ _ d _ _ h=>by cases d <;> exact h) (hcl _ (Keep.refl _ _).drew) ?_
      simp only [RT.pick,PJ]
      iterate 8 (refine wpR_held ?_ (by rfl) ?_ ?_;rotate_left;(focus (rintro W ⟨hW0,hW1⟩;go_simp;try with_reducible rfl));simp only [Act.put,PU])
      refine @KAD (fun w' g=>Keep [] w6 w'∧w6.heap.size≤g∧Blk w' g 51 #[.int .i64 0,.int .i64 0,.int .i64 0,.int .i64 0,.int .i64 0,.int .i64 0,.int .i64 0,.int .i64 0,.int .i64 0,.int .i64 0]) ?X1 _ (fun hR=>?_) ?_
      rotate_left
      · have hkc:Keep [] w6 w6.drew:=(Keep.refl _ _).drew
        generalize w6.drew=V0 at hkc ⊢
        refine wpR_two ?_ ?_
        · refine wpR_loud (by rfl) (fun K hK=>?_)
          go_wp2_with (refine (hSa _ hkc).mono ?_;rintro e V1 ⟨rfl,hq⟩)
          replace hkc:=hkc.trans0 hq
          clear hq
          refine hK _ _ ((hcl _ hkc)) ?_
          clear hK K
          try simp only [Act.put,PU]
          refine wpR_two ?_ ?_
          · refine wpR_loud (by rfl) (fun K hK=>?_)
            go_wp2_with (refine (hAc _ hkc).mono ?_;rintro e V2 ⟨rfl,rfl⟩)
            refine hK _ _ ((hcl _ hkc)) ?_
            clear hK K
            try simp only [Act.put,PU]
            refine wpR_loud (by rfl) (fun K hK=>?_)
            go_wp2_with fail
            have hbS:=Blk.new V1 51 #[.int .i64 0,.int .i64 0,.int .i64 0,.int .i64 0,.int .i64 0,.int .i64 0,.int .i64 0,.int .i64 0,.int .i64 0,.int .i64 0]
            have hq:=(Keep.refl [] V1).alloc (.cells #[.int .i64 0,.int .i64 0,.int .i64 0,.int .i64 0,.int .i64 0,.int .i64 0,.int .i64 0,.int .i64 0,.int .i64 0,.int .i64 0] 51)
            have hlS:w6.heap.size≤V1.heap.size:=hkc.size
            generalize V1.alloc (.cells #[.int .i64 0,.int .i64 0,.int .i64 0,.int .i64 0,.int .i64 0,.int .i64 0,.int .i64 0,.int .i64 0,.int .i64 0,.int .i64 0] 51)=V2 at hbS hq ⊢
            generalize V1.heap.size=gS at hbS hlS ⊢
            replace hkc:=hkc.trans0 hq
            clear hq
            refine hK _ _ ((hcl _ hkc)) ?_
            clear hK K
            try simp only [Act.put,PU]
            refine wpR_nil ?_
            exact hR V2 gS ⟨hkc,hlS,hbS⟩
          · refine wpR_loud (by rfl) (fun K hK=>?_)
            go_wp2_with fail
            have hbS:=Blk.new V1 51 #[.int .i64 0,.int .i64 0,.int .i64 0,.int .i64 0,.int .i64 0,.int .i64 0,.int .i64 0,.int .i64 0,.int .i64 0,.int .i64 0]
            have hq:=(Keep.refl [] V1).alloc (.cells #[.int .i64 0,.int .i64 0,.int .i64 0,.int .i64 0,.int .i64 0,.int .i64 0,.int .i64 0,.int .i64 0,.int .i64 0,.int .i64 0] 51)
            have hlS:w6.heap.size≤V1.heap.size:=hkc.size
            generalize V1.alloc (.cells #[.int .i64 0,.int .i64 0,.int .i64 0,.int .i64 0,.int .i64 0,.int .i64 0,.int .i64 0,.int .i64 0,.int .i64 0,.int .i64 0] 51)=V2 at hbS hq ⊢
            generalize V1.heap.size=gS at hbS hlS ⊢
            replace hkc:=hkc.trans0 hq
            clear hq
            refine hK _ _ ((hcl _ hkc)) ?_
            clear hK K
            try simp only [Act.put,PU]
            refine wpR_loud (by rfl) (fun K hK=>?_)
            go_wp2_with (refine (hAc _ hkc).mono ?_;rintro e V3 ⟨rfl,rfl⟩)
            refine hK _ _ ((hcl _ hkc)) ?_
            clear hK K
            try simp only [Act.put,PU]
            refine wpR_nil ?_
            exact hR V2 gS ⟨hkc,hlS,hbS⟩
        · refine wpR_loud (by rfl) (fun K hK=>?_)
          go_wp2_with fail
          have hbS:=Blk.new V0 51 #[.int .i64 0,.int .i64 0,.int .i64 0,.int .i64 0,.int .i64 0,.int .i64 0,.int .i64 0,.int .i64 0,.int .i64 0,.int .i64 0]
          have hq:=(Keep.refl [] V0).alloc (.cells #[.int .i64 0,.int .i64 0,.int .i64 0,.int .i64 0,.int .i64 0,.int .i64 0,.int .i64 0,.int .i64 0,.int .i64 0,.int .i64 0] 51)
          have hlS:w6.heap.size≤V0.heap.size:=hkc.size
          generalize V0.alloc (.cells #[.int .i64 0,.int .i64 0,.int .i64 0,.int .i64 0,.int .i64 0,.int .i64 0,.int .i64 0,.int .i64 0,.int .i64 0,.int .i64 0] 51)=V1 at hbS hq ⊢
          generalize V0.heap.size=gS at hbS hlS ⊢
          replace hkc:=hkc.trans0 hq
          clear hq
          refine hK _ _ ((hcl _ hkc)) ?_
          clear hK K
          try simp only [Act.put,PU]
          refine wpR_loud (by rfl) (fun K hK=>?_)
          go_wp2_with (refine (hSa _ hkc).mono ?_;rintro e V2 ⟨rfl,hq⟩)
          replace hbS:=hbS.keep0 hq
          replace hkc:=hkc.trans0 hq
          clear hq
          refine hK _ _ ((hcl _ hkc)) ?_
          clear hK K
          try simp only [Act.put,PU]
          refine wpR_loud (by rfl) (fun K hK=>?_)
          go_wp2_with (refine (hAc _ hkc).mono ?_;rintro e V3 ⟨rfl,rfl⟩)
          refine hK _ _ ((hcl _ hkc)) ?_
          clear hK K
          try simp only [Act.put,PU]
          refine wpR_nil ?_
          exact hR V2 gS ⟨hkc,hlS,hbS⟩
      rintro V2 gS ⟨hkZ,hgS,hbS⟩
      refine QR rfl _ _ _ rfl _ _ rfl rfl (Zv gS [.int .i64 n0,.int .i64 n1,.int .i64 n2,.int .i64 n3,.int .i64 n4,.int .i64 n5,.int .i64 n6,.int .i64 n7,.int .i64 n8,.int .i64 n9] rfl (by simp [Value.oneCell']) V2 (JP hbS 10 (by simp))) ?_
      replace hbS:=hbS.all [.int .i64 n0,.int .i64 n1,.int .i64 n2,.int .i64 n3,.int .i64 n4,.int .i64 n5,.int .i64 n6,.int .i64 n7,.int .i64 n8,.int .i64 n9] (by simp)
      have hk9:=Keep.setCells (g:=gS) [.int .i64 n0,.int .i64 n1,.int .i64 n2,.int .i64 n3,.int .i64 n4,.int .i64 n5,.int .i64 n6,.int .i64 n7,.int .i64 n8,.int .i64 n9] 0 (Keep.refl [gS] V2) (.inl (by simp))
      generalize V2.setCells gS 0 [.int .i64 n0,.int .i64 n1,.int .i64 n2,.int .i64 n3,.int .i64 n4,.int .i64 n5,.int .i64 n6,.int .i64 n7,.int .i64 n8,.int .i64 n9]=V3 at *
      replace hkZ:=hkZ.trans hk9 (fun y hy => .inr (by simp at hy;omega))
      clear hk9
      have hRv:∀ W,Calls Tryz.prog 19 #[.int .i64 view,.int .i64 20] W fun e w'=>e = .returned (.int .i64 (qv:Nat))∧W=w':=fun W=>by rw [← XA HQV];exact ZM view 20 W (by omega) (by omega)
      have hRs:∀ W,Calls Tryz.prog 19 #[.int .i64 seq,.int .i64 60] W fun e w'=>e = .returned (.int .i64 (qs:Nat))∧W=w':=fun W=>by rw [← XA HQS];exact ZM seq 60 W (by omega) (by omega)
      have hHe:=fun W=>YAE (1+qv) (by omega) W
      have hWi:∀ W,Calls Tryz.prog 13 #[.int .i64 ((1+qv:Nat):Int),.int .i64 ((1+qs:Nat):Int),.agg #[.int .i64 2,.int .i64 0,.int .i64 1,.int .i64 0,.slice none 0 0]] W _:=fun W=>Jh (1+qv) (1+qs) 2 0 1 0 0 0 none [] (by omega) (by omega) (.inr (.inl ⟨rfl,by omega,by omega,by omega,rfl,rfl⟩)) W (Rd.nil _ _) (by omega)
      have hTa:=fun W (hk:Keep [] w6 W) k v b c e dn fs xs A n cp hm ha=>KAF W r _ (hUn.keep0 hk) (by omega) k v b c e dn fs xs A n cp hm ha
      have hRy:=fun W (hk:Keep [] w6 W)=>Kt W r _ (hUn.keep0 hk) (by omega)
      have hh9:=Jy (1+qv) (by omega)
      have hh2:FrMay 2 ((1+qv:Nat):Int) ((1+qs:Nat):Int) 0 1 0 0 []:=OpMay.fr (k:=2) (b:=0) (c:=1) (e:=0) (n:=0) (.inr (.inl ⟨rfl,by omega,by omega,by omega,rfl,rfl⟩)) (by omega) (by omega) rfl
      simp only [Int.natCast_add] at hHe hWi
      go_wp2_with (first
       | (go_at_call 19
          first
          | (refine (hRv _).mono ?_;clear hRv;rintro e w' ⟨rfl,rfl⟩)
          | (refine (hRs _).mono ?_;clear hRs;rintro e w' ⟨rfl,rfl⟩))
       | (go_at_call 20
          refine (hHe _).mono ?_
          clear hHe
          rintro e V4 ⟨u,rfl,hu,hk4⟩
          obtain ⟨UA,uc,rfl,_⟩:=ZB hu
          replace hkc:Keep [] w6 V4:=hkZ.trans0 hk4
          have hTk1:=hTa V4 hkc 9 (1+qv) 0 0 0 0 0 [] UA 25 uc hh9 (Rd.of_own hu))
       | (go_at_call 12
          first
          | (refine hTk1.mono ?_
             clear hTk1
             rintro e V5 ⟨rfl,hk5⟩
             replace hkc:=hkc.trans0 hk5
             have hb5:=hbS.keep0 (hk4.trans0 hk5))
          | (refine hTk2.mono ?_
             clear hTk2
             rintro e V7 ⟨rfl,hk7⟩
             replace hkc:=hkc.trans0 hk7
             have hb7:=hb6.keep0 hk7)
          | (refine hTk3.mono ?_
             clear hTk3
             rintro e V9 ⟨rfl,hk9⟩
             replace hkc:=hkc.trans0 hk9
             have hb9:=hb8.keep0 hk9))
       | (go_at_call 13
          refine (hWi _).mono ?_
          clear hWi
          rintro e V6 ⟨u2,rfl,hu2,hk6⟩
          obtain ⟨UA2,uc2,rfl,_⟩:=ZB hu2
          replace hkc:=hkc.trans0 hk6
          have hb6:=hb5.keep0 hk6
          have hTk2:=hTa V6 hkc 2 (1+qv) 0 1 0 0 (1+qs) [] UA2 _ uc2 hh2 (Rd.of_own hu2))
       | (go_at_call 21
          refine (hRy _ hkc).mono ?_
          clear hRy
          rintro e V8 ⟨rfl,hk8⟩
          replace hkc:=hkc.trans0 hk8
          have hb8:=hb7.keep0 hk8
          have hTk3:=JAY r V8))
      have hsC:∀ W,Keep [] V9 W→ZAj t d s gS n0 n1 n2 n3 n4 n5 n6 n7 n8 n9 W:=fun W hk=>⟨hcl _ (hkc.trans0 hk),QT (hb9.keep0 hk)⟩
      have hAc':=fun W hk=>hAc W (hkc.trans0 hk)
      have hSa':=fun W hk=>hSa W (hkc.trans0 hk)
      have hSt':=fun W hk=>Vu W r s x (hbr.keep0 (hkc.trans0 hk))
      replace hfin:∀ W,Keep [] V9 W→Keep [] w W:=fun W hk=>hfin W (hkc.trans0 hk)
      clear hkc hb9 hAc hSa hbr hcl hUn hTa hkZ hbS hh9 hh2
      have hT0:Keep [] V9 V9.drew:=(Keep.refl [] V9).drew
      refine ZA (ZAj t d s gS n0 n1 n2 n3 n4 n5 n6 n7 n8 n9) 45 [(0,false),(1,false),(2,false),(3,false),(4,false),(5,false),(6,false),(7,false),(8,false),(9,false),(10,false),(11,false),(12,false),(13,false),(14,false),(15,false),(16,false),(17,false),(18,false),(19,false),(20,false),(21,false),(22,false),(23,false),(25,false),(24,true),(26,false),(27,false),(28,false),(29,false),(30,false),(31,false),(32,false),(33,false),(35,false),(34,true),(36,false),(37,false),(38,false),(39,false),(41,false),(42,false),(43,false),(44,false),(40,true)]
       (by kernel_rfl) (by kernel_rfl) (fun _ _ d _ _ h=>by cases d <;> exact h) (hsC _ hT0) ?_
      simp only [PI]
      iterate 25 (refine QB ?_ (by rfl) ?_ ?_;rotate_left;(focus (rintro W ⟨⟨hW0,hW1⟩,hW2,hW3,hW4,hW5,hW6,hW7,hW8,hW9,hWa,hWb⟩;go_simp;try with_reducible rfl));simp only [Act.put,PU])
      refine YB (by rfl) (fun K hK=>?_)
      go_wp2_with (refine (hSa' _ hT0).mono ?_;clear hSa';rintro e U1 ⟨rfl,hT1⟩)
      replace hT1:=hT0.trans0 hT1
      refine hK _ _ ((hsC _ hT1)) ?_
      clear hK K
      try simp only [Act.put,PU]
      iterate 9 (refine QB ?_ (by rfl) ?_ ?_;rotate_left;(focus (rintro W ⟨⟨hW0,hW1⟩,hW2,hW3,hW4,hW5,hW6,hW7,hW8,hW9,hWa,hWb⟩;go_simp;try with_reducible rfl));simp only [Act.put,PU])
      refine YB (by rfl) (fun K hK=>?_)
      go_wp2_with (refine (hAc' _ hT1).mono ?_;clear hAc';rintro e w' ⟨rfl,rfl⟩)
      refine hK _ _ ((hsC _ hT1)) ?_
      clear hK K
      try simp only [Act.put,PU]
      iterate 8 (refine QB ?_ (by rfl) ?_ ?_;rotate_left;(focus (rintro W ⟨⟨hW0,hW1⟩,hW2,hW3,hW4,hW5,hW6,hW7,hW8,hW9,hWa,hWb⟩;go_simp;try with_reducible rfl));simp only [Act.put,PU])
      refine YB (by rfl) (fun K hK=>?_)
      go_wp2_with (refine (hSt' _ hT1).mono ?_;clear hSt';rintro e w' ⟨rfl,rfl⟩)
      refine hK _ _ ((hsC _ hT1)) ?_
      clear hK K
      try simp only [Act.put,PU]
      have hEq:∀ W,(binOp .eql 34 (.pointer (some ⟨s,0,none⟩)) (.pointer (some ⟨s,0,none⟩))).run Tryz.prog W = .ok (.bool true) W:=fun W=>JAm s W
      refine QC ?_
      go_wp2_with (refine (Ki _).mono ?_;rintro e U3 ⟨rfl,hT3⟩)
      go_ret
      exact ⟨rfl,(hfin _ hT1).trans0 hT3⟩
    · go_wp2_with (first
       | (go_at_call 15
          refine hfu5.mono ?_
          clear hfu5
          rintro e w7 ⟨rfl,hk7,hfl⟩
          have y0:w7.cell? ⟨t,0,none⟩=some (.pointer (some ⟨d,0,none⟩)):=by simpa using (hbt5.keep hk7 htd).cell 0)
       | (go_at_call 16
          refine hfl.mono ?_
          clear hfl
          rintro e w6 ⟨rfl,hk6,han,hoa⟩
          have y0:w6.cell? ⟨t,0,none⟩=some (.pointer (some ⟨d,0,none⟩)):=by simpa using (hbt5.keep hk6 htd).cell 0))
      have hTL6:Kq t r s d x 3 w6:=⟨fun W hk=>⟨by simpa using ((hbt5.keep hk6 htd).keep0 hk).cell 0,by simpa using ((hbt5.keep hk6 htd).keep0 hk).cell 2⟩,JAM w6 r s d x (hbr5.keep hk6 hrd) (fun W hW=>(han W hW).2) (fun W hW=>(hoa W hW).1),hbr5.keep hk6 hrd,
       ⟨_,_,_,_,_,_,_,_,_,_,fun W hk=>(han W hk).1⟩,⟨S5.D.acts+1,fun W hk=>(hoa W hk).2⟩⟩
      have hfin:∀ W,Keep [] w6 W→Keep [] w W:=fun W hk=>hkA.trans0 ((hkw5.trans hk6 (fun y hy => .inr (by simp at hy;omega))).trans0 hk)
      clear hTL hbt5 hbr5 hkw5 hk5 hg5 han5 hk6 hk7 hoa han
      rename Kq t r s d x 3 w6=>hTL
      obtain ⟨hcl,hUn,hbr,⟨n0,n1,n2,n3,n4,n5,n6,n7,n8,n9,hSa⟩,ac,hAc⟩:=hTL
      refine wp_region_rt (fun w'=>w'.cell? ⟨t,0,none⟩=some (.pointer (some ⟨d,0,none⟩))∧w'.cell? ⟨t,2,none⟩=some (.pointer (some ⟨s,0,none⟩))) 11 (.held 0 (.held 1 (.held 2 (.held 3 (.held 5 (.held 6 (.held 7 (.held 8 (.two 4 (.two 9 (.loud 10 .nil) 10 (.loud 9 .nil)) 10 (.loud 4 (.loud 9 .nil)))))))))))
       (by kernel_rfl) (by kernel_rfl) (fun _ _ d _ _ h=>by cases d <;> exact h) (hcl _ (Keep.refl _ _).drew) ?_
      simp only [RT.pick,PJ]
      iterate 8 (refine wpR_held ?_ (by rfl) ?_ ?_;rotate_left;(focus (rintro W ⟨hW0,hW1⟩;go_simp;try with_reducible rfl));simp only [Act.put,PU])
      refine @KAD (fun w' g=>Keep [] w6 w'∧w6.heap.size≤g∧Blk w' g 51 #[.int .i64 0,.int .i64 0,.int .i64 0,.int .i64 0,.int .i64 0,.int .i64 0,.int .i64 0,.int .i64 0,.int .i64 0,.int .i64 0]) ?X2 _ (fun hR=>?_) ?_
      rotate_left
      · have hkc:Keep [] w6 w6.drew:=(Keep.refl _ _).drew
        generalize w6.drew=V0 at hkc ⊢
        refine wpR_two ?_ ?_
        · refine wpR_loud (by rfl) (fun K hK=>?_)
          go_wp2_with (refine (hSa _ hkc).mono ?_;rintro e V1 ⟨rfl,hq⟩)
          replace hkc:=hkc.trans0 hq
          clear hq
          refine hK _ _ ((hcl _ hkc)) ?_
          clear hK K
          try simp only [Act.put,PU]
          refine wpR_two ?_ ?_
          · refine wpR_loud (by rfl) (fun K hK=>?_)
            go_wp2_with (refine (hAc _ hkc).mono ?_;rintro e V2 ⟨rfl,rfl⟩)
            refine hK _ _ ((hcl _ hkc)) ?_
            clear hK K
            try simp only [Act.put,PU]
            refine wpR_loud (by rfl) (fun K hK=>?_)
            go_wp2_with fail
            have hbS:=Blk.new V1 51 #[.int .i64 0,.int .i64 0,.int .i64 0,.int .i64 0,.int .i64 0,.int .i64 0,.int .i64 0,.int .i64 0,.int .i64 0,.int .i64 0]
            have hq:=(Keep.refl [] V1).alloc (.cells #[.int .i64 0,.int .i64 0,.int .i64 0,.int .i64 0,.int .i64 0,.int .i64 0,.int .i64 0,.int .i64 0,.int .i64 0,.int .i64 0] 51)
            have hlS:w6.heap.size≤V1.heap.size:=hkc.size
            generalize V1.alloc (.cells #[.int .i64 0,.int .i64 0,.int .i64 0,.int .i64 0,.int .i64 0,.int .i64 0,.int .i64 0,.int .i64 0,.int .i64 0,.int .i64 0] 51)=V2 at hbS hq ⊢
            generalize V1.heap.size=gS at hbS hlS ⊢
            replace hkc:=hkc.trans0 hq
            clear hq
            refine hK _ _ ((hcl _ hkc)) ?_
            clear hK K
            try simp only [Act.put,PU]
            refine wpR_nil ?_
            exact hR V2 gS ⟨hkc,hlS,hbS⟩
          · refine wpR_loud (by rfl) (fun K hK=>?_)
            go_wp2_with fail
            have hbS:=Blk.new V1 51 #[.int .i64 0,.int .i64 0,.int .i64 0,.int .i64 0,.int .i64 0,.int .i64 0,.int .i64 0,.int .i64 0,.int .i64 0,.int .i64 0]
            have hq:=(Keep.refl [] V1).alloc (.cells #[.int .i64 0,.int .i64 0,.int .i64 0,.int .i64 0,.int .i64 0,.int .i64 0,.int .i64 0,.int .i64 0,.int .i64 0,.int .i64 0] 51)
            have hlS:w6.heap.size≤V1.heap.size:=hkc.size
            generalize V1.alloc (.cells #[.int .i64 0,.int .i64 0,.int .i64 0,.int .i64 0,.int .i64 0,.int .i64 0,.int .i64 0,.int .i64 0,.int .i64 0,.int .i64 0] 51)=V2 at hbS hq ⊢
            generalize V1.heap.size=gS at hbS hlS ⊢
            replace hkc:=hkc.trans0 hq
            clear hq
            refine hK _ _ ((hcl _ hkc)) ?_
            clear hK K
            try simp only [Act.put,PU]
            refine wpR_loud (by rfl) (fun K hK=>?_)
            go_wp2_with (refine (hAc _ hkc).mono ?_;rintro e V3 ⟨rfl,rfl⟩)
            refine hK _ _ ((hcl _ hkc)) ?_
            clear hK K
            try simp only [Act.put,PU]
            refine wpR_nil ?_
            exact hR V2 gS ⟨hkc,hlS,hbS⟩
        · refine wpR_loud (by rfl) (fun K hK=>?_)
          go_wp2_with fail
          have hbS:=Blk.new V0 51 #[.int .i64 0,.int .i64 0,.int .i64 0,.int .i64 0,.int .i64 0,.int .i64 0,.int .i64 0,.int .i64 0,.int .i64 0,.int .i64 0]
          have hq:=(Keep.refl [] V0).alloc (.cells #[.int .i64 0,.int .i64 0,.int .i64 0,.int .i64 0,.int .i64 0,.int .i64 0,.int .i64 0,.int .i64 0,.int .i64 0,.int .i64 0] 51)
          have hlS:w6.heap.size≤V0.heap.size:=hkc.size
          generalize V0.alloc (.cells #[.int .i64 0,.int .i64 0,.int .i64 0,.int .i64 0,.int .i64 0,.int .i64 0,.int .i64 0,.int .i64 0,.int .i64 0,.int .i64 0] 51)=V1 at hbS hq ⊢
          generalize V0.heap.size=gS at hbS hlS ⊢
          replace hkc:=hkc.trans0 hq
          clear hq
          refine hK _ _ ((hcl _ hkc)) ?_
          clear hK K
          try simp only [Act.put,PU]
          refine wpR_loud (by rfl) (fun K hK=>?_)
          go_wp2_with (refine (hSa _ hkc).mono ?_;rintro e V2 ⟨rfl,hq⟩)
          replace hbS:=hbS.keep0 hq
          replace hkc:=hkc.trans0 hq
          clear hq
          refine hK _ _ ((hcl _ hkc)) ?_
          clear hK K
          try simp only [Act.put,PU]
          refine wpR_loud (by rfl) (fun K hK=>?_)
          go_wp2_with (refine (hAc _ hkc).mono ?_;rintro e V3 ⟨rfl,rfl⟩)
          refine hK _ _ ((hcl _ hkc)) ?_
          clear hK K
          try simp only [Act.put,PU]
          refine wpR_nil ?_
          exact hR V2 gS ⟨hkc,hlS,hbS⟩
      rintro V2 gS ⟨hkZ,hgS,hbS⟩
      refine QR rfl _ _ _ rfl _ _ rfl rfl (Zv gS [.int .i64 n0,.int .i64 n1,.int .i64 n2,.int .i64 n3,.int .i64 n4,.int .i64 n5,.int .i64 n6,.int .i64 n7,.int .i64 n8,.int .i64 n9] rfl (by simp [Value.oneCell']) V2 (JP hbS 10 (by simp))) ?_
      replace hbS:=hbS.all [.int .i64 n0,.int .i64 n1,.int .i64 n2,.int .i64 n3,.int .i64 n4,.int .i64 n5,.int .i64 n6,.int .i64 n7,.int .i64 n8,.int .i64 n9] (by simp)
      have hk9:=Keep.setCells (g:=gS) [.int .i64 n0,.int .i64 n1,.int .i64 n2,.int .i64 n3,.int .i64 n4,.int .i64 n5,.int .i64 n6,.int .i64 n7,.int .i64 n8,.int .i64 n9] 0 (Keep.refl [gS] V2) (.inl (by simp))
      generalize V2.setCells gS 0 [.int .i64 n0,.int .i64 n1,.int .i64 n2,.int .i64 n3,.int .i64 n4,.int .i64 n5,.int .i64 n6,.int .i64 n7,.int .i64 n8,.int .i64 n9]=V3 at *
      replace hkZ:=hkZ.trans hk9 (fun y hy => .inr (by simp at hy;omega))
      clear hk9
      have hRv:∀ W,Calls Tryz.prog 19 #[.int .i64 view,.int .i64 20] W fun e w'=>e = .returned (.int .i64 (qv:Nat))∧W=w':=fun W=>by rw [← XA HQV];exact ZM view 20 W (by omega) (by omega)
      have hRs:∀ W,Calls Tryz.prog 19 #[.int .i64 seq,.int .i64 60] W fun e w'=>e = .returned (.int .i64 (qs:Nat))∧W=w':=fun W=>by rw [← XA HQS];exact ZM seq 60 W (by omega) (by omega)
      have hHe:=fun W=>YAE (1+qv) (by omega) W
      have hWi:∀ W,Calls Tryz.prog 13 #[.int .i64 ((1+qv:Nat):Int),.int .i64 ((1+qs:Nat):Int),.agg #[.int .i64 2,.int .i64 0,.int .i64 1,.int .i64 0,.slice none 0 0]] W _:=fun W=>Jh (1+qv) (1+qs) 2 0 1 0 0 0 none [] (by omega) (by omega) (.inr (.inl ⟨rfl,by omega,by omega,by omega,rfl,rfl⟩)) W (Rd.nil _ _) (by omega)
      have hTa:=fun W (hk:Keep [] w6 W) k v b c e dn fs xs A n cp hm ha=>KAF W r _ (hUn.keep0 hk) (by omega) k v b c e dn fs xs A n cp hm ha
      have hRy:=fun W (hk:Keep [] w6 W)=>Kt W r _ (hUn.keep0 hk) (by omega)
      have hh9:=Jy (1+qv) (by omega)
      have hh2:FrMay 2 ((1+qv:Nat):Int) ((1+qs:Nat):Int) 0 1 0 0 []:=OpMay.fr (k:=2) (b:=0) (c:=1) (e:=0) (n:=0) (.inr (.inl ⟨rfl,by omega,by omega,by omega,rfl,rfl⟩)) (by omega) (by omega) rfl
      simp only [Int.natCast_add] at hHe hWi
      go_wp2_with (first
       | (go_at_call 19
          first
          | (refine (hRv _).mono ?_;clear hRv;rintro e w' ⟨rfl,rfl⟩)
          | (refine (hRs _).mono ?_;clear hRs;rintro e w' ⟨rfl,rfl⟩))
       | (go_at_call 20
          refine (hHe _).mono ?_
          clear hHe
          rintro e V4 ⟨u,rfl,hu,hk4⟩
          obtain ⟨UA,uc,rfl,_⟩:=ZB hu
          replace hkc:Keep [] w6 V4:=hkZ.trans0 hk4
          have hTk1:=hTa V4 hkc 9 (1+qv) 0 0 0 0 0 [] UA 25 uc hh9 (Rd.of_own hu))
       | (go_at_call 12
          first
          | (refine hTk1.mono ?_
             clear hTk1
             rintro e V5 ⟨rfl,hk5⟩
             replace hkc:=hkc.trans0 hk5
             have hb5:=hbS.keep0 (hk4.trans0 hk5))
          | (refine hTk2.mono ?_
             clear hTk2
             rintro e V7 ⟨rfl,hk7⟩
             replace hkc:=hkc.trans0 hk7
             have hb7:=hb6.keep0 hk7)
          | (refine hTk3.mono ?_
             clear hTk3
             rintro e V9 ⟨rfl,hk9⟩
             replace hkc:=hkc.trans0 hk9
             have hb9:=hb8.keep0 hk9))
       | (go_at_call 13
          refine (hWi _).mono ?_
          clear hWi
          rintro e V6 ⟨u2,rfl,hu2,hk6⟩
          obtain ⟨UA2,uc2,rfl,_⟩:=ZB hu2
          replace hkc:=hkc.trans0 hk6
          have hb6:=hb5.keep0 hk6
          have hTk2:=hTa V6 hkc 2 (1+qv) 0 1 0 0 (1+qs) [] UA2 _ uc2 hh2 (Rd.of_own hu2))
       | (go_at_call 21
          refine (hRy _ hkc).mono ?_
          clear hRy
          rintro e V8 ⟨rfl,hk8⟩
          replace hkc:=hkc.trans0 hk8
          have hb8:=hb7.keep0 hk8
          have hTk3:=JAY r V8))
      have hsC:∀ W,Keep [] V9 W→ZAj t d s gS n0 n1 n2 n3 n4 n5 n6 n7 n8 n9 W:=fun W hk=>⟨hcl _ (hkc.trans0 hk),QT (hb9.keep0 hk)⟩
      have hAc':=fun W hk=>hAc W (hkc.trans0 hk)
      have hSa':=fun W hk=>hSa W (hkc.trans0 hk)
      have hSt':=fun W hk=>Vu W r s x (hbr.keep0 (hkc.trans0 hk))
      replace hfin:∀ W,Keep [] V9 W→Keep [] w W:=fun W hk=>hfin W (hkc.trans0 hk)
      clear hkc hb9 hAc hSa hbr hcl hUn hTa hkZ hbS hh9 hh2
      have hT0:Keep [] V9 V9.drew:=(Keep.refl [] V9).drew
      refine ZA (ZAj t d s gS n0 n1 n2 n3 n4 n5 n6 n7 n8 n9) 45 [(0,false),(1,false),(2,false),(3,false),(4,false),(5,false),(6,false),(7,false),(8,false),(9,false),(10,false),(11,false),(12,false),(13,false),(14,false),(15,false),(16,false),(17,false),(18,false),(19,false),(20,false),(21,false),(22,false),(23,false),(25,false),(24,true),(26,false),(27,false),(28,false),(29,false),(30,false),(31,false),(32,false),(33,false),(35,false),(34,true),(36,false),(37,false),(38,false),(39,false),(41,false),(42,false),(43,false),(44,false),(40,true)]
       (by kernel_rfl) (by kernel_rfl) (fun _ _ d _ _ h=>by cases d <;> exact h) (hsC _ hT0) ?_
      simp only [PI]
      iterate 20 (refine QB ?_ (by rfl) ?_ ?_;rotate_left;(focus (rintro W ⟨⟨hW0,hW1⟩,hW2,hW3,hW4,hW5,hW6,hW7,hW8,hW9,hWa,hWb⟩;go_simp;try with_reducible rfl));simp only [Act.put,PU])
      iterate 5 (refine Xa (by rfl) ?_;simp only [Act.put,PU])
      refine ZQ (by rfl) (hsC _ hT0) ?_
      simp only [Act.put,PU]
      iterate 1 (refine Xa (by rfl) ?_;simp only [Act.put,PU])
      iterate 8 (refine QB ?_ (by rfl) ?_ ?_;rotate_left;(focus (rintro W ⟨⟨hW0,hW1⟩,hW2,hW3,hW4,hW5,hW6,hW7,hW8,hW9,hWa,hWb⟩;go_simp;try with_reducible rfl));simp only [Act.put,PU])
      have hT1:=hT0
      refine YB (by rfl) (fun K hK=>?_)
      go_wp2_with (refine (hAc' _ hT1).mono ?_;clear hAc';rintro e w' ⟨rfl,rfl⟩)
      refine hK _ _ ((hsC _ hT1)) ?_
      clear hK K
      try simp only [Act.put,PU]
      iterate 8 (refine QB ?_ (by rfl) ?_ ?_;rotate_left;(focus (rintro W ⟨⟨hW0,hW1⟩,hW2,hW3,hW4,hW5,hW6,hW7,hW8,hW9,hWa,hWb⟩;go_simp;try with_reducible rfl));simp only [Act.put,PU])
      refine YB (by rfl) (fun K hK=>?_)
      go_wp2_with (refine (hSt' _ hT1).mono ?_;clear hSt';rintro e w' ⟨rfl,rfl⟩)
      refine hK _ _ ((hsC _ hT1)) ?_
      clear hK K
      try simp only [Act.put,PU]
      have hEq:∀ W,(binOp .eql 34 (.pointer (some ⟨s,0,none⟩)) (.pointer (some ⟨s,0,none⟩))).run Tryz.prog W = .ok (.bool true) W:=fun W=>JAm s W
      refine QC ?_
      go_wp2_with (refine (Ki _).mono ?_;rintro e U3 ⟨rfl,hT3⟩)
      go_ret
      exact ⟨rfl,(hfin _ hT1).trans0 hT3⟩
end
end Go.Proofs.YtmoagodllhdemaaGreat
