/-
  A part of the proof: lemmas, and contracts of functions; their conditions stand in them.
-/
import Derived.Test.YtmoagodllhdemaaGreatH48
import Derived.Test.YtmoagodllhdemaaGreatH09
import Derived.Test.YtmoagodllhdemaaGreatH39
import Derived.Test.YtmoagodllhdemaaGreatH42
namespace Go.Proofs.YtmoagodllhdemaaGreat
set_option linter.unusedSimpArgs false
set_option linter.unusedVariables false
set_option maxHeartbeats 16000000
set_option maxRecDepth 100000
section
open Go.RowKit Go.Shelf
theorem KAN (x0:Int) (A:Option Addr) (len cap:Nat) (zs:List (Int×Int×Int)) (view seq:Int) (w:World) (hz:PartsAt w A len zs) (hlen:len≤9223372036854775807) :
 Calls Tryz.prog 4 #[.int .i64 x0,.slice A len cap,.int .i64 view,.int .i64 seq] w fun e w'=>e = .returned (.bool true)∧Keep [] w w':=by
 by_cases hbig:(30:Int)<(len:Nat)
 · go_enter Tryz.func4,Tryz.ntmps4
   go_wp2_with (refine (Yc _).mono ?_;rintro e w' ⟨rfl,hk⟩)
   go_ret
   exact ⟨rfl,hk⟩
 have hl30:len≤30:=by omega
 have hSm:=YAK x0 w
 have hY:=fun W B h1 h2=>Yp W B h1 h2
 go_enter Tryz.func4,Tryz.ntmps4
 go_wp2_with (first
  | (go_at_call 9
     refine hSm.mono ?_
     clear hSm
     rintro e w1 ⟨B,rfl,hB,hB1,hB2,hk1⟩
     have hbc:=Blk.new w1 28 #[.int .i64 (B:Nat),.int .i64 8,.int .i64 24]
     have hkA:Keep [] w (w1.alloc (.cells #[.int .i64 (B:Nat),.int .i64 8,.int .i64 24] 28)):=hk1.alloc _
     have hY1:=hY (w1.alloc (.cells #[.int .i64 (B:Nat),.int .i64 8,.int .i64 24] 28)) B hB1 (by omega)
     clear hY hB)
  | (go_at_call 8
     refine hY1.mono ?_
     clear hY1
     rintro e w2 ⟨t,d,s,F,D,rfl,hYd⟩
     obtain ⟨mm,xx,hbt,hst,hgood,_,_,hk2⟩:=id hYd
     have t0:w2.cell? ⟨t,0,none⟩=some (.pointer (some ⟨d,0,none⟩)):=by simpa using hbt.cell 0
     have t2:w2.cell? ⟨t,2,none⟩=some (.pointer (some ⟨s,0,none⟩)):=by simpa using hbt.cell 2
     have hN4:Calls Tryz.prog 10 #[.pointer (some ⟨s,0,none⟩),.int .i64 8] w2 _:=XAZ w2 _ s d F B (PS.fresh B D) hst (by simp [PS.fresh]) 8 (by omega) (by omega) rfl (by simp [PS.fresh]) hk2.size
     have htl:=hbt.lt)
  | (go_at_call 10
     refine hN4.mono ?_
     clear hN4
     rintro e w3 ⟨r,x,Fx,rfl,hr,hk3,hfr⟩
     have hL3:=LawSt.new hYd hr hk3 hfr
     have hbc3:=(hbc.keep0 hk2).keep0 hk3
     have hofc:Off [w1.heap.size] w3 (JM r F Fx):=by
      have hge:=hL3.rep.ge
      have hlc:=hbc3.lt
      intro y hy
      obtain rfl:=List.mem_singleton.1 hy
      exact ⟨fun hm=>by have h1:=hge _ hm;simp only [World.size_alloc] at h1;omega,hlc⟩
     have hHe:=YAJ 9 (by omega) w3)
  | (go_at_call 20
     refine hHe.mono ?_
     clear hHe
     rintro e w4 ⟨u,rfl,hu,hk4⟩
     obtain ⟨UA,uc,rfl,_⟩:=KB hu
     have hL4:=hL3.keep0 hk4
     have hT:=Xa w4 _ r s d x F Fx B _ hL4.rep 9 (by omega) UA uc (Rd.of_own hu) 0 0 hgood (QAA B D) (by omega) (by simp [PS.fresh]) (by simp [PS.fresh]))
  | (go_at_call 12
     refine hT.mono ?_
     clear hT
     rintro e w5 hP
     obtain ⟨F5,Fx5,S5,VA,vc,hL5,hR5,hk5,hg5,rfl,hA5⟩:=hL4.hello hP
     have hgd5:=hR5.good hgood (QAA B D) (by omega)
     have hF0:Hid (S5.st.view=9∧S5.st.seq=0∧S5.st.epoch=0):=by show _∧_∧_;rw [hgd5.2.2.2.2.1];exact ⟨rfl,rfl,rfl⟩
     have hgen5:Hid (S5.st.gen=2):=by show _=_;rw [hgd5.2.2.2.2.1];rfl
     have hgood5:=hgd5.1
     have hext5:=hgd5.2.1
     have hs0:=(JA hF0).2.1
     rw [hs0] at hL5
     have hof5:=(hofc.keep0 hk4).turn hk5 hg5
     have hbc5:=(hbc3.keep0 hk4).keepN ((hofc.keep0 hk4).keepN hk5) (by simp)
     have hkB:=hkA.trans0 hL5.kept
     obtain ⟨c0,c1,c2⟩:=JD hbc5
     have hOp:=ZAm w5 B ⟨hB1,by omega⟩ A len cap zs (hz.keep0 hkB) (by omega)
     clear hgd5 hs0 hP hA5)
  | (go_at_call 11
     refine hOp.mono ?_
     clear hOp
     rintro e w6 ⟨OA,oc,oz,rfl,hoz,hO,hk6⟩
     have hL6:=hL5.keep0 hk6
     have hO6:=hO.apart hL5.rep.lt
     have hof6:=hof5.keep0 hk6
     have hbc6:=hbc5.keep0 hk6))
 have hozl:oz.length=len:=by have:=congrArg List.length hoz;rwa [List.length_map,KAI] at this
 have HOZ:=JC hoz
 have HOL:=JC hozl
 generalize hwA:w1.alloc (.cells #[.int .i64 (B:Nat),.int .i64 8,.int .i64 24] 28)=wA at *
 generalize w1.heap.size=cb at *
 clear hwA hoz hozl hL3 hL4 hL5 hO hk6 hk5 hk4 hk3 hk2 hg5 hfr hr t0 t2 c0 c1 c2 hbc hbc3 hbc5 hof5 hofc hYd hbt hst htl hkB hgood hR5
 go_loopw [14,16] (fun ev i wr=>∃ (k:Nat) (Fs Fx:List Nat) (S:PS),k≤len∧ev = .int .i64 0∧i = .int .i64 (k:Nat)∧LawSt wA wr B t r s d x Fs Fx ⟨S,k+1,XD 8⟩∧Hid (S.st.view=9∧S.st.seq=k∧S.st.epoch=(VR B zs k).2)∧Good B S k (1+2*k)∧Ext B S∧Hid (S.st.gen=2)∧OHold wr w5.heap.size (JM r Fs Fx) (.slice OA len oc) oz∧Off [cb] wr (JM r Fs Fx)∧Blk wr cb 28 #[.int .i64 (B:Nat),.int .i64 8,.int .i64 24]) (fun _ i _=>len-(intOf i).toNat)
 case atStart=>exact ⟨0,F5,Fx5,S5,by omega,rfl,rfl,by simpa using hL6,hF0,hgood5,hext5,hgen5,hO6,hof6,hbc6⟩
 case round=>
  clear hL6 hF0 hgood5 hext5 hgen5 hO6 hof6 hbc6
  obtain ⟨k,Fs,Fx,S,hk,rfl,rfl,hL,hst,hg,hx,hgn,hO,hof,hbc⟩:=hrel
  by_cases hlt:k<len
  · have hkz:k<oz.length:=by rw [JA HOL];exact hlt
    obtain ⟨pv,hpv⟩:∃ p,p=oz[k]:=⟨_,rfl⟩
    have hop:pv.2=(KN B (zs.getD k (0,0,0)) (VR B zs k).2).1:=by
     have h1:(oz.map (·.2))[k]? = some pv.2:=by rw [List.getElem?_map,List.getElem?_eq_getElem hkz,hpv];rfl
     rw [JA HOZ,XAk B zs len k hlt] at h1
     exact (Option.some.inj h1).symm
    have hepk:=ZAE B zs k
    obtain ⟨hfor,k1,b1,c1,e1,xs,hpo,hmay,hfor2⟩:=QAM B ⟨hB1,by omega⟩ (zs.getD k (0,0,0)) (VR B zs k).2 (by omega)
    have hep:=JAg B (zs.getD k (0,0,0)) (VR B zs k).2
    have hnx:=YAY B zs k
    rw [← hop] at hpo hfor hep
    rw [← hnx] at hep
    have hda:=hO.data pv (by rw [hpv];exact List.getElem_mem hkz)
    have hrdO:=hO.rd (A:=OA) (c:=oc) (by rw [JA HOL])
    rw [JA HOL] at hrdO
    obtain ⟨ob,oo,hOA,hobl,o0,o1,o2,o3,o4⟩:=hrdO.at_ hlt hkz
    rw [← hpv] at o0 o1 o2 o3 o4
    obtain ⟨DV,po⟩:=pv
    simp only at hpo hda o0 o1 o2 o3 o4 hop hfor hep
    subst hpo
    simp only at hda o0 o1 o2 o3 o4 hep
    obtain ⟨DA,dc,rfl,_,hdc,_⟩:=KB hda
    have hE2:(VR B zs (k+1)).2=VAx k1 (VR B zs k).2∧(k1=3→e1=(VR B zs k).2+1):=by
     unfold VAx
     rcases hep with ⟨h1,h2,h3⟩ | ⟨h1,h2⟩
     · have:k1=3:=by omega
       exact ⟨by rw [if_pos this,h3],fun _=>by omega⟩
     · have:¬ k1=3:=by omega
       exact ⟨by rw [if_neg this,h2],fun h=>absurd h this⟩
    have HE2:=JC hE2
    have hW:Calls Tryz.prog 13 #[.int .i64 ((9:Nat):Int),.int .i64 (((k+1:Nat)):Int),.agg #[.int .i64 k1,.int .i64 b1,.int .i64 c1,.int .i64 e1,.slice DA xs.length dc]] wr _:=Xf 9 (k+1) k1 b1 c1 e1 xs.length dc DA xs (by omega) (by omega) hmay wr (Rd.of_own hda) (by omega)
    rw [Int.natCast_add] at hW
    have HOP:=JC hop
    have HPV:=JC hpv
    have HEP:=JC hep
    have HNX:=JC hnx
    have HOA:=JC hOA
    clear hop hpv hep hnx hE2 hrdO
    subst hOA
    obtain ⟨n1,hn1⟩:∃ n,n=xs.length:=⟨_,rfl⟩
    rw [← hn1] at hW hmay hda o4
    have HN1:=JC hn1
    have hn64:n1≤64:=by rcases hmay with ⟨_,_,_,_,h⟩ | ⟨_,_,_,_,_,h⟩ | ⟨_,_,_,_,_,h⟩ <;> omega
    clear hn1
    have hT0:=fun W (hk:Keep [] wr W) UA uc hr=>(hL.keep0 hk).stepV (by omega) (JA hst) hg (by omega) (by omega) k1 b1 c1 e1 n1 xs UA uc hr hmay (JA HN1).symm hfor2 hfor (JA HE2).2
    go_wp2_with (first
     | (go_at_call 13
        refine hW.mono ?_
        clear hW
        rintro e w7 ⟨u,rfl,hu,hk7⟩
        obtain ⟨UA,uc,rfl,_⟩:=KB hu
        have hT:=hT0 w7 hk7 UA uc (Rd.of_own hu)
        clear hT0)
     | (go_at_call 12
        refine hT.mono ?_
        clear hT
        rintro e w8 ⟨VA,vc,Fs',Fx',S',rfl,_,hL8,hst8,_,hg8,hdo8,hk8,hgr8⟩))
    go_roundw
    case rel=>
     have hof7:=hof.keep0 hk7
     refine ⟨k+1,Fs',Fx',S',by omega,rfl,by go_num,hL8,?_,hg8,hdo8.ext hfor hg (by omega) (by omega) hx,?_,(hO.keep0 hk7).turn hk8 (fun y hy=>hy) hgr8,hof7.turn hk8 hgr8,(hbc.keep0 hk7).keepN (hof7.keepN hk8) (by simp)⟩
     · show _∧_∧_
       rw [(JA HE2).1]
       exact hst8
     · show S'.st.gen=2
       rw [hdo8.gen]
       exact JA hgn
    case measure=>simp [intOf];omega
  · obtain rfl:k=len:=by omega
    clear HOZ HOL hO
    obtain ⟨hv,hsq,hpe⟩:=JA hst
    have hpee:=ZAE B zs k
    have hep30:S.st.epoch≤30:=by omega
    have hdn30:=hg.done
    have HSQ:=JC hsq
    have HVW:=JC hv
    clear hst hpe
    have hsq30:S.st.seq≤30:=by omega
    clear hsq hpee
    have hW3:Calls Tryz.prog 13 #[.int .i64 ((9:Nat):Int),.int .i64 ((k+3:Nat):Int),.agg #[.int .i64 2,.int .i64 0,.int .i64 1,.int .i64 0,.slice none 0 0]] wr _:=Xf 9 (k+3) 2 0 1 0 0 0 none [] (by omega) (by omega) (.inr (.inl ⟨rfl,by omega,by omega,by omega,rfl,rfl⟩)) wr (Rd.nil _ _) (by omega)
    simp only [Int.natCast_add] at hW3
    have hT0:=fun W (hk':Keep [] wr W) UA uc hr=>(hL.keep0 hk').takeV (JA HVW) 2 0 1 0 0 (k+3) [] UA uc hr (.inr (.inl ⟨rfl,by omega,by omega,by omega,rfl,rfl⟩)) rfl (.inl (by omega)) (by omega) k (1+2*k) hg (by rw [ZN];omega) (by omega) (by simp only;omega) (JV 8 B) (by simp only;omega) (by simp only [length_emptyW];omega) (VP _ _) (.inr (.inl ⟨rfl,by simp,by simp,by simp;omega⟩))
    clear hv
    go_wp2_with (first
     | (go_at_call 13
        refine hW3.mono ?_
        clear hW3
        rintro e w7 ⟨u,rfl,hu,hk7⟩
        obtain ⟨UA,uc,rfl,_⟩:=KB hu
        have hT:=hT0 w7 hk7 UA uc (Rd.of_own hu)
        have hof7:=hof.keep0 hk7
        clear hT0)
     | (go_at_call 12
        refine hT.mono ?_
        clear hT
        rintro e w8 ⟨qv,Fs8,Fx8,R8,er,hL8,hRan,hg8,hop8,hk8,hgr8,hres⟩
        simp only [length_emptyW] at hRan
        obtain ⟨hR8,her⟩:=QAr (by omega) (show Ran B ⟨S,k+1,(XD 8).set ((k+1+2) % 8) _⟩ R8 er from hRan)
        subst hR8
        obtain ⟨UB,ub,rfl⟩:∃ UB ub,e = .returned (.tuple #[.slice UB 25 ub,.int .i64 0]):=by
         rcases hres with ⟨_,UB,ub,h,_⟩ | ⟨h,_⟩
         · exact ⟨UB,ub,h⟩
         · omega
        have hbc8:=(hbc.keep0 hk7).keepN (hof7.keepN hk8) (by simp)
        have hWt:=WaitingR_is w8 _ r s d x Fs8 Fx8 B _ hL8.rep
        rw [Qz k _ rfl] at hWt)
     | (go_at_call 23
        refine hWt.mono ?_
        clear hWt
        rintro e w9 ⟨rfl,hk9⟩))
    have hL9:=hL8.keep0 hk9
    have hbc9:=hbc8.keep0 hk9
    have hof9:Off [cb] w9 (JM r Fs8 Fx8):=(hof7.turn hk8 hgr8).keep0 hk9
    have hkw9:Keep [] w w9:=hkA.trans0 hL9.kept
    have hcl:∀ W,Keep [] w9 W→W.cell? ⟨t,0,none⟩=some (.pointer (some ⟨d,0,none⟩))∧W.cell? ⟨t,2,none⟩=some (.pointer (some ⟨s,0,none⟩)):=fun W hk=>(hL9.keep0 hk).cells
    obtain ⟨n0,n1,n2,n3,n4,n5,n6,n7,n8,n9,hSa,HN⟩:∃ n0 n1 n2 n3 n4 n5 n6 n7 n8 n9:Int,(∀ W,Keep [] w9 W→Calls Tryz.prog 17 #[.pointer (some ⟨s,0,none⟩)] W fun e w'=>e = .returned (.agg #[.int .i64 n0,.int .i64 n1,.int .i64 n2,.int .i64 n3,.int .i64 n4,.int .i64 n5,.int .i64 n6,.int .i64 n7,.int .i64 n8,.int .i64 n9])∧Keep [] W w')∧Hid (n2=(S.st.epoch:Nat)∧n4=(S.st.done:Nat)):=⟨_,_,_,_,_,_,_,_,_,_,fun W hk=>QH W _ s d Fs8 B S (hL9.keep0 hk).rep.st,rfl,rfl⟩
    obtain ⟨ac,hAc⟩:∃ ac:Nat,∀ W,Keep [] w9 W→Calls Tryz.prog 18 #[.pointer (some ⟨d,0,none⟩)] W fun e w'=>e = .returned (.int .i64 (ac:Nat))∧W=w':=⟨S.D.acts,fun W hk=>by
     obtain ⟨g,tt,p,m,Fd,Ft,Fw,Fm,L0,L1,h2,hf⟩:=(hL9.keep0 hk).rep.st
     exact ZBA W _ d Fd S.D h2.log.disk⟩
    have hWa:∀ W,Keep [] w9 W→Calls Tryz.prog 23 #[.pointer (some ⟨r,0,none⟩)] W fun e w'=>e = .returned (.int .i64 1)∧Keep [] W w':=fun W hk=>by
     have h:=WaitingR_is W _ r s d x Fs8 Fx8 B _ (hL9.keep0 hk).rep
     rwa [Qz k _ rfl] at h
    have hBl:=fun W (hk:Keep [] w9 W)=>Vq W _ s d Fs8 B S (hL9.keep0 hk).rep.st k (1+2*k) hg
    obtain ⟨qv,hqv,hqvl⟩:∃ q:Nat,view % 20=(q:Int)∧q<20:=⟨(view % 20).toNat,by omega,by omega⟩
    have hRv:∀ W,Calls Tryz.prog 19 #[.int .i64 view,.int .i64 20] W fun e w'=>e = .returned (.int .i64 (qv:Nat))∧W=w':=fun W=>by rw [← hqv];exact QR view 20 W (by omega) (by omega)
    have hHe:=fun W=>YAJ (1+qv) (by omega) W
    simp only [Int.natCast_add] at hHe
    clear hqv hL8 hk9 hk8 hgr8 hop8 hg8 hof7 hk7 hu hL hRan hbc8 hof hbc
    refine wp_region_rt (fun w'=>w'.cell? ⟨t,0,none⟩=some (.pointer (some ⟨d,0,none⟩))∧w'.cell? ⟨t,2,none⟩=some (.pointer (some ⟨s,0,none⟩))) 11 (.held 0 (.held 1 (.held 2 (.held 3 (.held 5 (.held 6 (.held 7 (.held 8 (.two 4 (.two 9 (.loud 10 .nil) 10 (.loud 9 .nil)) 10 (.loud 4 (.loud 9 .nil)))))))))))
     (by kernel_rfl) (by kernel_rfl) (fun _ _ d _ _ h=>by cases d <;> exact h) (hcl _ (Keep.refl _ _).drew) ?_
    simp only [RT.pick,PJ]
    iterate 8 (refine wpR_held ?_ (by rfl) ?_ ?_;rotate_left;(focus (rintro W ⟨hW0,hW1⟩;go_simp;try with_reducible rfl));simp only [Act.put,PU])
    refine @JAa (fun w' g=>Keep [] w9 w'∧w9.heap.size≤g∧Blk w' g 51 #[.int .i64 0,.int .i64 0,.int .i64 0,.int .i64 0,.int .i64 0,.int .i64 0,.int .i64 0,.int .i64 0,.int .i64 0,.int .i64 0]) ?X9 _ (fun hR=>?_) ?_
    rotate_left
    · have hkc:Keep [] w9 w9.drew:=(Keep.refl _ _).drew
      generalize w9.drew=V0 at hkc ⊢
      refine wpR_two ?_ ?_
      · refine wpR_loud (by rfl) (fun K hK=>?_)
        go_wp2_with (refine (hSa _ hkc).mono ?_;rintro e V1 ⟨rfl,hq⟩)
        replace hkc:=hkc.trans0 hq
        clear hq
        refine hK _ _ ((hcl _ hkc)) ?_
        clear hK K
        try simp only [Act.put,PU]
        refine wpR_two ?_ ?_
        · refine wpR_loud (by rfl) (fun K hK=>?_)
          go_wp2_with (refine (hAc _ hkc).mono ?_;rintro e V2 ⟨rfl,rfl⟩)
          refine hK _ _ ((hcl _ hkc)) ?_
          clear hK K
          try simp only [Act.put,PU]
          refine wpR_loud (by rfl) (fun K hK=>?_)
          go_wp2_with fail
          have hbS:=Blk.new V1 51 #[.int .i64 0,.int .i64 0,.int .i64 0,.int .i64 0,.int .i64 0,.int .i64 0,.int .i64 0,.int .i64 0,.int .i64 0,.int .i64 0]
          have hq:=(Keep.refl [] V1).alloc (.cells #[.int .i64 0,.int .i64 0,.int .i64 0,.int .i64 0,.int .i64 0,.int .i64 0,.int .i64 0,.int .i64 0,.int .i64 0,.int .i64 0] 51)
          have hlS:w9.heap.size≤V1.heap.size:=hkc.size
          generalize V1.alloc (.cells #[.int .i64 0,.int .i64 0,.int .i64 0,.int .i64 0,.int .i64 0,.int .i64 0,.int .i64 0,.int .i64 0,.int .i64 0,.int .i64 0] 51)=V2 at hbS hq ⊢
          generalize V1.heap.size=gS at hbS hlS ⊢
          replace hkc:=hkc.trans0 hq
          clear hq
          refine hK _ _ ((hcl _ hkc)) ?_
          clear hK K
          try simp only [Act.put,PU]
          refine wpR_nil ?_
          exact hR V2 gS ⟨hkc,hlS,hbS⟩
        · refine wpR_loud (by rfl) (fun K hK=>?_)
          go_wp2_with fail
          have hbS:=Blk.new V1 51 #[.int .i64 0,.int .i64 0,.int .i64 0,.int .i64 0,.int .i64 0,.int .i64 0,.int .i64 0,.int .i64 0,.int .i64 0,.int .i64 0]
          have hq:=(Keep.refl [] V1).alloc (.cells #[.int .i64 0,.int .i64 0,.int .i64 0,.int .i64 0,.int .i64 0,.int .i64 0,.int .i64 0,.int .i64 0,.int .i64 0,.int .i64 0] 51)
          have hlS:w9.heap.size≤V1.heap.size:=hkc.size
          generalize V1.alloc (.cells #[.int .i64 0,.int .i64 0,.int .i64 0,.int .i64 0,.int .i64 0,.int .i64 0,.int .i64 0,.int .i64 0,.int .i64 0,.int .i64 0] 51)=V2 at hbS hq ⊢
          generalize V1.heap.size=gS at hbS hlS ⊢
          replace hkc:=hkc.trans0 hq
          clear hq
          refine hK _ _ ((hcl _ hkc)) ?_
          clear hK K
          try simp only [Act.put,PU]
          refine wpR_loud (by rfl) (fun K hK=>?_)
          go_wp2_with (refine (hAc _ hkc).mono ?_;rintro e V3 ⟨rfl,rfl⟩)
          refine hK _ _ ((hcl _ hkc)) ?_
          clear hK K
          try simp only [Act.put,PU]
          refine wpR_nil ?_
          exact hR V2 gS ⟨hkc,hlS,hbS⟩
      · refine wpR_loud (by rfl) (fun K hK=>?_)
        go_wp2_with fail
        have hbS:=Blk.new V0 51 #[.int .i64 0,.int .i64 0,.int .i64 0,.int .i64 0,.int .i64 0,.int .i64 0,.int .i64 0,.int .i64 0,.int .i64 0,.int .i64 0]
        have hq:=(Keep.refl [] V0).alloc (.cells #[.int .i64 0,.int .i64 0,.int .i64 0,.int .i64 0,.int .i64 0,.int .i64 0,.int .i64 0,.int .i64 0,.int .i64 0,.int .i64 0] 51)
        have hlS:w9.heap.size≤V0.heap.size:=hkc.size
        generalize V0.alloc (.cells #[.int .i64 0,.int .i64 0,.int .i64 0,.int .i64 0,.int .i64 0,.int .i64 0,.int .i64 0,.int .i64 0,.int .i64 0,.int .i64 0] 51)=V1 at hbS hq ⊢
        generalize V0.heap.size=gS at hbS hlS ⊢
        replace hkc:=hkc.trans0 hq
        clear hq
        refine hK _ _ ((hcl _ hkc)) ?_
        clear hK K
        try simp only [Act.put,PU]
        refine wpR_loud (by rfl) (fun K hK=>?_)
        go_wp2_with (refine (hSa _ hkc).mono ?_;rintro e V2 ⟨rfl,hq⟩)
        replace hbS:=hbS.keep0 hq
        replace hkc:=hkc.trans0 hq
        clear hq
        refine hK _ _ ((hcl _ hkc)) ?_
        clear hK K
        try simp only [Act.put,PU]
        refine wpR_loud (by rfl) (fun K hK=>?_)
        go_wp2_with (refine (hAc _ hkc).mono ?_;rintro e V3 ⟨rfl,rfl⟩)
        refine hK _ _ ((hcl _ hkc)) ?_
        clear hK K
        try simp only [Act.put,PU]
        refine wpR_nil ?_
        exact hR V2 gS ⟨hkc,hlS,hbS⟩
    rintro V2 gS ⟨hkZ,hgS,hbS⟩
    refine YU rfl _ _ _ rfl _ _ rfl rfl (KAh gS [.int .i64 n0,.int .i64 n1,.int .i64 n2,.int .i64 n3,.int .i64 n4,.int .i64 n5,.int .i64 n6,.int .i64 n7,.int .i64 n8,.int .i64 n9] rfl (by simp [Value.oneCell']) V2 (JT hbS 10 (by simp))) ?_
    replace hbS:=hbS.all [.int .i64 n0,.int .i64 n1,.int .i64 n2,.int .i64 n3,.int .i64 n4,.int .i64 n5,.int .i64 n6,.int .i64 n7,.int .i64 n8,.int .i64 n9] (by simp)
    have hk9:=Keep.setCells (g:=gS) [.int .i64 n0,.int .i64 n1,.int .i64 n2,.int .i64 n3,.int .i64 n4,.int .i64 n5,.int .i64 n6,.int .i64 n7,.int .i64 n8,.int .i64 n9] 0 (Keep.refl [gS] V2) (.inl (by simp))
    generalize V2.setCells gS 0 [.int .i64 n0,.int .i64 n1,.int .i64 n2,.int .i64 n3,.int .i64 n4,.int .i64 n5,.int .i64 n6,.int .i64 n7,.int .i64 n8,.int .i64 n9]=V3 at *
    replace hkZ:=hkZ.trans hk9 (fun y hy => .inr (by simp at hy;omega))
    clear hk9
    go_wp2_with fail
    obtain ⟨b0,_,_⟩:=JD (hbc9.keep0 hkZ)
    refine KA (fun w'=>w'.cell? ⟨t,2,none⟩=some (.pointer (some ⟨s,0,none⟩))∧w'.cell? ⟨cb,0,none⟩=some (.int .i64 (B:Nat))) 11 [(0,false),(1,false),(2,false),(3,false),(4,false),(5,false),(6,true),(7,false),(8,false),(9,false),(10,false)]
     (by kernel_rfl) (by kernel_rfl) (fun _ _ d _ _ h=>by cases d <;> exact h) ⟨(hcl _ hkZ).2,b0⟩ ?_
    simp only [PI]
    iterate 6 (refine XB ?_ (by rfl) ?_ ?_;rotate_left;(focus (rintro W ⟨hW1,hW2⟩;go_simp;try with_reducible rfl));simp only [Act.put,PU])
    refine QC (by rfl) (fun K hK=>?_)
    go_wp2_with (refine (hBl _ hkZ.drew).mono ?_;rintro e V4 ⟨VB,rfl,hVB,hk4⟩)
    have hkc:Keep [] w9 V4:=hkZ.drew.trans0 hk4
    obtain ⟨b4,_,_⟩:=JD (hbc9.keep0 hkc)
    have hb4:=(hbS.drew).keep0 hk4
    have hVL:w9.heap.size≤V3.drew.heap.size:=hkZ.drew.size
    refine hK _ _ (⟨(hcl _ hkc).2,b4⟩) ?_
    clear hK K
    try simp only [Act.put,PU]
    iterate 4 (refine XB ?_ (by rfl) ?_ ?_;rotate_left;(focus (rintro W ⟨hW1,hW2⟩;go_simp;try with_reducible rfl));simp only [Act.put,PU])
    refine YC ?_
    obtain ⟨VA,va,ls,rfl,hls,_,_⟩:=id hVB
    generalize (ZK B S).length=nB at *
    generalize V3.drew.heap.size=VN at *
    clear hbS hkZ b0 b4 hk4 hls
    have hTri:qv<8∨qv=8∨8<qv:=by omega
    rcases hTri with hq8 | hq8 | hq8
    · have hltI:(1+((qv:Nat):Int))<9:=by omega
      go_wp2_with (first
       | (go_at_call 19;refine (hRv _).mono ?_;clear hRv;rintro e w' ⟨rfl,rfl⟩)
       | (go_at_call 20
          refine (hHe V4).mono ?_
          clear hHe
          rintro e V5 ⟨u,rfl,hu,hk5⟩
          obtain ⟨UA,uc,rfl,_⟩:=KB hu
          have hkc5:Keep [] w9 V5:=hkc.trans0 hk5
          have hb5:=hb4.keep0 hk5
          have hT:=Xk V5 _ r s d x Fs8 Fx8 B _ (hL9.keep0 hkc5).rep (1+qv) (by omega) UA uc (Rd.of_own hu) (by simp only;rw [JA HVW];omega))
       | (go_at_call 12
          refine hT.mono ?_
          clear hT
          rintro e V6 ⟨rfl,hk6⟩
          have hkc6:=hkc5.trans0 hk6
          have hb6:=hb5.keep0 hk6
          obtain ⟨z0,z2⟩:=hcl _ hkc6)
       | (go_at_call 17
          refine (hSa _ hkc6).mono ?_
          clear hSa
          rintro e V7 ⟨rfl,hk7⟩
          have hkN:Keep [] V7 (V7.alloc (.cells #[.int .i64 n0,.int .i64 n1,.int .i64 n2,.int .i64 n3,.int .i64 n4,.int .i64 n5,.int .i64 n6,.int .i64 n7,.int .i64 n8,.int .i64 n9] 51)):=(Keep.refl [] V7).alloc _
          have hbN:=Blk.new V7 51 #[.int .i64 n0,.int .i64 n1,.int .i64 n2,.int .i64 n3,.int .i64 n4,.int .i64 n5,.int .i64 n6,.int .i64 n7,.int .i64 n8,.int .i64 n9]
          have hb7:=(hb6.keep0 hk7).keep0 hkN
          obtain ⟨s0,s1,s2,s3,s4,s5,s6,s7,s8,s9⟩:=KI hb7
          obtain ⟨m0,m1,m2,m3,m4,m5,m6,m7,m8,m9⟩:=KI hbN
          have hkc7:=(hkc6.trans0 hk7).trans0 hkN
          obtain ⟨y0,y2⟩:=hcl _ hkc7)
       | (go_at_call 18;refine (hAc _ hkc7).mono ?_;clear hAc;rintro e w' ⟨rfl,rfl⟩)
       | (go_at_call 23;refine (hWa _ hkc7).mono ?_;clear hWa;rintro e V8 ⟨rfl,hk8⟩)
       | (go_at_call 7;refine (Yc _).mono ?_;rintro e V9 ⟨rfl,hk9⟩))
      go_ret
      exact ⟨rfl,((hkw9.trans0 hkc7).trans0 hk8).trans0 hk9⟩
    · subst hq8
      have hnl:¬ (1+((8:Nat):Int))<9:=by omega
      go_wp2_with (first
       | (go_at_call 19;refine (hRv _).mono ?_;clear hRv;rintro e w' ⟨rfl,rfl⟩)
       | (go_at_call 20
          refine (hHe V4).mono ?_
          clear hHe
          rintro e V5 ⟨u,rfl,hu,hk5⟩
          obtain ⟨UA,uc,rfl,_⟩:=KB hu
          have hkc5:Keep [] w9 V5:=hkc.trans0 hk5
          have hb5:=hb4.keep0 hk5
          have hT:=Qh V5 _ r s d x Fs8 Fx8 B _ (hL9.keep0 hkc5).rep (1+8) (by omega) UA uc (Rd.of_own hu) (by simp only;rw [JA HVW]) (by simp only;omega) (by simp only;omega) hg.done)
       | (go_at_call 12
          refine hT.mono ?_
          clear hT
          rintro e V6 ⟨XA,xc,rfl,hx,hk6⟩
          have hkc6:=hkc5.trans0 hk6
          have hb6:=hb5.keep0 hk6
          obtain ⟨z0,z2⟩:=hcl _ hkc6)
       | (go_at_call 17
          refine (hSa _ hkc6).mono ?_
          clear hSa
          rintro e V7 ⟨rfl,hk7⟩
          have hkN:Keep [] V7 (V7.alloc (.cells #[.int .i64 n0,.int .i64 n1,.int .i64 n2,.int .i64 n3,.int .i64 n4,.int .i64 n5,.int .i64 n6,.int .i64 n7,.int .i64 n8,.int .i64 n9] 51)):=(Keep.refl [] V7).alloc _
          have hbN:=Blk.new V7 51 #[.int .i64 n0,.int .i64 n1,.int .i64 n2,.int .i64 n3,.int .i64 n4,.int .i64 n5,.int .i64 n6,.int .i64 n7,.int .i64 n8,.int .i64 n9]
          have hb7:=(hb6.keep0 hk7).keep0 hkN
          obtain ⟨s0,s1,s2,s3,s4,s5,s6,s7,s8,s9⟩:=KI hb7
          obtain ⟨m0,m1,m2,m3,m4,m5,m6,m7,m8,m9⟩:=KI hbN
          have hkc7:=(hkc6.trans0 hk7).trans0 hkN
          obtain ⟨y0,y2⟩:=hcl _ hkc7
          have hTe:=Ju _ _ s d Fs8 B S (hL9.keep0 hkc7).rep.st XA xc (Rd.of_own (YB hx (hk7.trans0 hkN))) (Xm _ _ _ _ (by rw [JA HVW];omega) (by omega) (by omega) hg.done))
       | (go_at_call 25
          refine hTe.mono ?_
          clear hTe
          rintro e V10 ⟨rfl,hk10⟩
          have hkc10:=hkc7.trans0 hk10
          obtain ⟨s0,s1,s2,s3,s4,s5,s6,s7,s8,s9⟩:=KI (hb7.keep0 hk10)
          obtain ⟨m0,m1,m2,m3,m4,m5,m6,m7,m8,m9⟩:=KI (hbN.keep0 hk10)
          obtain ⟨y0,y2⟩:=hcl _ hkc10)
       | (go_at_call 18;refine (hAc _ hkc10).mono ?_;clear hAc;rintro e w' ⟨rfl,rfl⟩)
       | (go_at_call 23;refine (hWa _ hkc10).mono ?_;clear hWa;rintro e V8 ⟨rfl,hk8⟩)
       | (go_at_call 7;refine (Yc _).mono ?_;rintro e V9 ⟨rfl,hk9⟩))
      go_ret
      exact ⟨rfl,((hkw9.trans0 hkc10).trans0 hk8).trans0 hk9⟩
    · have hnl:¬ (1+((qv:Nat):Int))<9:=by omega
      have hne:¬ (1+((qv:Nat):Int))=9:=by omega
      go_wp2_with (first
       | (go_at_call 19;refine (hRv _).mono ?_;clear hRv;rintro e w' ⟨rfl,rfl⟩)
       | (go_at_call 20
          refine (hHe V4).mono ?_
          clear hHe
          rintro e V5 ⟨u,rfl,hu,hk5⟩
          obtain ⟨UA,uc,rfl,_⟩:=KB hu
          have hkc5:Keep [] w9 V5:=hkc.trans0 hk5
          have hb5:=hb4.keep0 hk5
          have hT:=Xa V5 _ r s d x Fs8 Fx8 B _ (hL9.keep0 hkc5).rep (1+qv) (by omega) UA uc (Rd.of_own hu) k (1+2*k) hg hx (by omega) (by simp only;rw [JA hgn];omega) (by simp only;rw [JA HVW];omega))
       | (go_at_call 12
          refine hT.mono ?_
          clear hT
          rintro e V6 hP
          obtain ⟨Fs',Fx',S',XA,xc,hL',hR',hk6,hgr6,rfl,hA'⟩:=(hL9.keep0 hkc5).hello hP
          replace hR':Raised B S (1+qv) 1 S':=hR'
          simp only [List.length_set,length_emptyW] at hL'
          obtain ⟨hg',_,hba,_,hst',hol'⟩:=hR'.good hg hx (by omega)
          have HS5:Hid (S'.st.mode=1∧S'.st.view=1+qv∧S'.st.epoch=S.st.epoch∧S'.st.seq=S.st.done∧S'.st.done=S.st.done):=by show _∧_∧_∧_∧_;rw [hst'];exact ⟨rfl,rfl,rfl,rfl,rfl⟩
          have hpe:YG S'.I.ol=0:=by rw [hol'];exact ZAg B
          rw [(JA HS5).2.2.2.1] at hL'
          have hSb:∃ q5 q6 q7 q8:Int,∀ W,Keep [] V6 W→Calls Tryz.prog 17 #[.pointer (some ⟨s,0,none⟩)] W fun e w'=>e = .returned (.agg #[.int .i64 1,.int .i64 (1+((qv:Nat):Int)),.int .i64 n2,.int .i64 n4,.int .i64 n4,.int .i64 q5,.int .i64 q6,.int .i64 q7,.int .i64 q8,.int .i64 0])∧Keep [] W w':=⟨(S'.st.mount:Nat),(S'.st.gen:Nat),(ZE S'.us:Nat),(QAR S':Nat),fun W hk=>by
           have h:=QH W _ s d Fs' B S' (hL'.keep0 hk).rep.st
           obtain ⟨e1,e2,e3,e4,e5⟩:=JA HS5
           rw [e1,e2,e3,e4,e5,hpe,← (JA HN).1,← (JA HN).2,Int.natCast_add] at h
           exact h⟩
          obtain ⟨q5,q6,q7,q8,hSb⟩:=hSb
          have HBA:=JC hba
          clear hba hst' hol' hpe hP hR'
          have hcl':∀ W,Keep [] V6 W→W.cell? ⟨t,0,none⟩=some (.pointer (some ⟨d,0,none⟩))∧W.cell? ⟨t,2,none⟩=some (.pointer (some ⟨s,0,none⟩)):=fun W hk=>(hL'.keep0 hk).cells
          have hgSn:gS∉JM r Fs8 Fx8:=fun hm=>by have:=hL9.rep.lt _ hm;omega
          have hb6:=hb5.keep hk6 hgSn
          have hgSl:=hb5.lt
          have hVB6:=(hVB.keep0 hk5).keepF hk6 (fun y hy => .inl (Nat.lt_of_lt_of_le (hL9.rep.lt y hy) hVL))
          have hbc6:=(hbc9.keep0 hkc5).keepN ((hof9.keep0 hkc5).keepN hk6) (by simp)
          have hgSn':gS∉JM r Fs' Fx':=fun hm=>(hgr6 gS hm).elim hgSn (by omega)
          have hA6:=AckRow.rd hA' rfl rfl rfl rfl
          have hkw6:Keep [] w V6:=hkA.trans0 hL'.kept
          obtain ⟨z0,z2⟩:=hcl' _ (Keep.refl _ _))
       | (go_at_call 17
          refine (hSb _ (Keep.refl [] V6)).mono ?_
          clear hSb
          rintro e V7 ⟨rfl,hk7⟩
          have hkN:Keep [] V7 (V7.alloc (.cells #[.int .i64 1,.int .i64 (1+((qv:Nat):Int)),.int .i64 n2,.int .i64 n4,.int .i64 n4,.int .i64 q5,.int .i64 q6,.int .i64 q7,.int .i64 q8,.int .i64 0] 51)):=(Keep.refl [] V7).alloc _
          have hbN:=Blk.new V7 51 #[.int .i64 1,.int .i64 (1+((qv:Nat):Int)),.int .i64 n2,.int .i64 n4,.int .i64 n4,.int .i64 q5,.int .i64 q6,.int .i64 q7,.int .i64 q8,.int .i64 0]
          have hb7:=(hb6.keep0 hk7).keep0 hkN
          obtain ⟨s0,s1,s2,s3,s4,s5,s6,s7,s8,s9⟩:=KI hb7
          obtain ⟨m0,m1,m2,m3,m4,m5,m6,m7,m8,m9⟩:=KI hbN
          have hkc7:=((Keep.refl [] V6).trans0 hk7).trans0 hkN
          obtain ⟨y0,y2⟩:=hcl' _ hkc7
          have hTe:=Ju _ _ s d Fs' B S' (hL'.keep0 hkc7).rep.st XA xc (hA6.keep (hk7.trans0 hkN)) (Xm _ _ _ _ (by rw [(JA HS5).2.1];omega) (by rw [(JA HS5).2.2.2.1];omega) (by rw [(JA HS5).2.2.1];omega) hg'.done))
       | (go_at_call 25
          refine hTe.mono ?_
          clear hTe
          rintro e V10 ⟨rfl,hk10⟩
          have hkc10:=hkc7.trans0 hk10
          have hbS10:=hb7.keep0 hk10
          have hbN10:=hbN.keep0 hk10))
      have hBl':=Vq V10.drew _ s d Fs' B S' (hL'.keep0 hkc10.drew).rep.st k _ hg'
      obtain ⟨b0,_,_⟩:=JD (hbc6.keep0 hkc10)
      generalize V7.heap.size=gN at *
      refine KA (fun w'=>w'.cell? ⟨t,2,none⟩=some (.pointer (some ⟨s,0,none⟩))∧w'.cell? ⟨cb,0,none⟩=some (.int .i64 (B:Nat))) 11 [(0,false),(1,false),(2,false),(3,false),(4,false),(5,false),(6,true),(7,false),(8,false),(9,false),(10,false)]
       (by kernel_rfl) (by kernel_rfl) (fun _ _ d _ _ h=>by cases d <;> exact h) ⟨(hcl' _ hkc10).2,b0⟩ ?_
      simp only [PI]
      iterate 6 (refine XB ?_ (by rfl) ?_ ?_;rotate_left;(focus (rintro W ⟨hW1,hW2⟩;go_simp;try with_reducible rfl));simp only [Act.put,PU])
      refine QC (by rfl) (fun K hK=>?_)
      go_wp2_with (refine hBl'.mono ?_;clear hBl';rintro e V11 ⟨VC,rfl,hVC,hk11⟩)
      have hkc11:=hkc10.drew.trans0 hk11
      obtain ⟨b1,_,_⟩:=JD (hbc6.keep0 hkc11)
      have hbS11:=hbS10.drew.keep0 hk11
      have hbN11:=hbN10.drew.keep0 hk11
      refine hK _ _ (⟨(hcl' _ hkc11).2,b1⟩) ?_
      clear hK K
      try simp only [Act.put,PU]
      iterate 4 (refine XB ?_ (by rfl) ?_ ?_;rotate_left;(focus (rintro W ⟨hW1,hW2⟩;go_simp;try with_reducible rfl));simp only [Act.put,PU])
      refine YC ?_
      obtain ⟨VCA,vca,ls2,rfl,_,_,_⟩:=id hVC
      generalize (ZK B S').length=nC at *
      rw [JA HBA] at hVC
      have hbl20:(ZK B S).length≤1000:=by unfold ZK;rw [List.length_map,hg.bl];omega
      clear b0 b1 z0 z2 y0 y2 s0 s1 s2 s3 s4 s5 s6 s7 s8 s9 m0 m1 m2 m3 m4 m5 m6 m7 m8 m9
      go_wp2_with fail
      have hBe:=fun W (hk:Keep [] V11 W)=>JAW (hVC.keep0 hk) (hVB6.keep0 (hkc11.trans0 hk)) hbl20
      have hw4:IntKind.i64.wrap (n4+1)=n4+1:=by rw [(JA HN).2,IntKind.wrap_i64];have:=hg.done;omega
      have hNx:∀ W,Keep [] V6 W→Calls Tryz.prog 27 #[.pointer (some ⟨r,0,none⟩)] W fun e w'=>e = .returned (.int .i64 (n4+1))∧W=w':=fun W hk=>by
       have h:=NextR_is W _ r s d x Fs' Fx' B _ (hL'.keep0 hk).rep
       simp only [Int.natCast_add] at h
       rw [← (JA HN).2] at h
       exact h
      have hWb:∀ W,Keep [] V6 W→Calls Tryz.prog 23 #[.pointer (some ⟨r,0,none⟩)] W fun e w'=>e = .returned (.int .i64 0)∧Keep [] W w':=fun W hk=>by
       have h:=WaitingR_is W _ r s d x Fs' Fx' B _ (hL'.keep0 hk).rep
       simp only [Xy] at h
       exact h
      have hc8:∀ W,Keep [] V11 W→(W.cell? ⟨gN,0,none⟩=some (.int .i64 1)∧W.cell? ⟨gN,1,none⟩=some (.int .i64 (1+((qv:Nat):Int)))∧W.cell? ⟨gN,2,none⟩=some (.int .i64 n2)∧W.cell? ⟨gN,3,none⟩=some (.int .i64 n4)∧W.cell? ⟨gN,4,none⟩=some (.int .i64 n4)∧W.cell? ⟨gN,9,none⟩=some (.int .i64 0))∧W.cell? ⟨gS,2,none⟩=some (.int .i64 n2)∧W.cell? ⟨gS,4,none⟩=some (.int .i64 n4):=fun W hk=>by
       obtain ⟨e0,e1,e2,e3,e4,_,_,_,_,e9⟩:=KI (hbN11.keep0 hk)
       obtain ⟨_,_,f2,_,f4,_⟩:=KI (hbS11.keep0 hk)
       exact ⟨⟨e0,e1,e2,e3,e4,e9⟩,f2,f4⟩
      refine KA (fun W=>(W.cell? ⟨gN,0,none⟩=some (.int .i64 1)∧W.cell? ⟨gN,1,none⟩=some (.int .i64 (1+((qv:Nat):Int)))∧W.cell? ⟨gN,2,none⟩=some (.int .i64 n2)∧W.cell? ⟨gN,3,none⟩=some (.int .i64 n4)∧W.cell? ⟨gN,4,none⟩=some (.int .i64 n4)∧W.cell? ⟨gN,9,none⟩=some (.int .i64 0))∧W.cell? ⟨gS,2,none⟩=some (.int .i64 n2)∧W.cell? ⟨gS,4,none⟩=some (.int .i64 n4)) 51 [(0,false),(1,false),(2,false),(3,false),(4,false),(5,true),(6,false),(7,false),(8,false),(9,false),(10,false),(11,false),(12,false),(13,false),(14,false),(15,false),(16,false),(17,false),(18,false),(19,false),(20,false),(21,false),(22,false),(23,false),(24,false),(25,false),(26,false),(27,false),(28,false),(29,false),(30,false),(31,false),(32,false),(33,false),(34,false),(35,false),(36,false),(37,false),(38,false),(39,false),(40,false),(41,false),(42,false),(43,false),(44,false),(45,false),(46,false),(48,false),(49,false),(50,false),(47,true)]
       (by kernel_rfl) (by kernel_rfl) (fun _ _ d _ _ h=>by cases d <;> exact h) (hc8 _ (Keep.refl _ _).drew) ?_
      simp only [PI]
      iterate 5 (refine XB ?_ (by rfl) ?_ ?_;rotate_left;(focus (rintro W ⟨⟨hW0,hW1,hW2,hW3,hW4,hW9⟩,hX2,hX4⟩;go_simp;try with_reducible rfl));simp only [Act.put,PU])
      refine QC (by rfl) (fun K hK=>?_)
      go_wp2_with (refine (hBe _ (Keep.refl _ _).drew).mono ?_;clear hBe;rintro e V12 ⟨rfl,hk12⟩)
      replace hk12:=(Keep.refl [] V11).drew.trans0 hk12
      refine hK _ _ ((hc8 _ hk12)) ?_
      clear hK K
      try simp only [Act.put,PU]
      iterate 44 (refine XB ?_ (by rfl) ?_ ?_;rotate_left;(focus (rintro W ⟨⟨hW0,hW1,hW2,hW3,hW4,hW9⟩,hX2,hX4⟩;go_simp;try with_reducible rfl));simp only [Act.put,PU])
      refine QC (by rfl) (fun K hK=>?_)
      go_wp2_with (refine (hNx _ (hkc11.trans0 hk12)).mono ?_;clear hNx;rintro e w' ⟨rfl,rfl⟩)
      refine hK _ _ ((hc8 _ hk12)) ?_
      clear hK K
      try simp only [Act.put,PU]
      refine YC ?_
      have hkc12:=hkc11.trans0 hk12
      obtain ⟨qs,hqs,hqsl⟩:∃ q:Nat,seq % 50=(q:Int)∧q<50:=⟨(seq % 50).toNat,by omega,by omega⟩
      have hRs:∀ W,Calls Tryz.prog 19 #[.int .i64 seq,.int .i64 50] W fun e w'=>e = .returned (.int .i64 (qs:Nat))∧W=w':=fun W=>by rw [← hqs];exact QR seq 50 W (by omega) (by omega)
      clear hqs
      have hdn:=hg.done
      have hW1:∀ W,Calls Tryz.prog 13 #[.int .i64 ((9:Nat):Int),.int .i64 ((1+qs:Nat):Int),.agg #[.int .i64 2,.int .i64 0,.int .i64 1,.int .i64 0,.slice none 0 0]] W _:=fun W=>Xf 9 (1+qs) 2 0 1 0 0 0 none [] (by omega) (by omega) (.inr (.inl ⟨rfl,by omega,by omega,by omega,rfl,rfl⟩)) W (Rd.nil _ _) (by omega)
      have hW2:∀ W,Calls Tryz.prog 13 #[.int .i64 (1+((qv:Nat):Int)),.int .i64 (n4+1),.agg #[.int .i64 2,.int .i64 0,.int .i64 1,.int .i64 0,.slice none 0 0]] W fun r w'=>∃ u,r = .returned u∧w'.ownsRow W.heap.size 5 1 u (25+0) (bys (KE 2 (1+qv) (S.st.done+1) 0 1 0 0 []))∧Keep [] W w':=fun W=>by
       have h:=Xf (1+qv) (S.st.done+1) 2 0 1 0 0 0 none [] (by omega) (by omega) (.inr (.inl ⟨rfl,by omega,by omega,by omega,rfl,rfl⟩)) W (Rd.nil _ _) (by omega)
       simp only [Int.natCast_add] at h
       rw [(JA HN).2]
       exact h
      simp only [Int.natCast_add] at hW1
      go_wp2_with (first
       | (go_at_call 23
          refine (hWb _ hkc12).mono ?_
          clear hWb
          rintro e V13 ⟨rfl,hk13⟩
          have hkc13:=hkc12.trans0 hk13)
       | (go_at_call 19;refine (hRs _).mono ?_;clear hRs;rintro e w' ⟨rfl,rfl⟩)
       | (go_at_call 13
          first
          | (refine (hW1 _).mono ?_
             clear hW1
             rintro e V14 ⟨u1,rfl,hu1,hk14⟩
             obtain ⟨YA,yc,rfl,_⟩:=KB hu1
             have hkc14:=hkc13.trans0 hk14
             have hT1:=Yq V14 _ r s d x Fs' Fx' B _ (hL'.keep0 hkc14).rep 9 2 0 1 0 0 (1+qs) [] YA yc (Rd.of_own hu1) (.inr (.inl ⟨rfl,by omega,by omega,by omega,rfl,rfl⟩)) rfl (.inl (by omega)) (by omega) (by omega) (by simp only;rw [(JA HS5).2.1];omega))
          | (refine (hW2 _).mono ?_
             clear hW2
             rintro e V16 ⟨u2,rfl,hu2,hk16⟩
             obtain ⟨ZA,zc,rfl,_⟩:=KB hu2
             have hkc16:=hkc15.trans0 hk16
             have hT2:=(hL'.keep0 hkc16).stepK (by omega) ⟨(JA HS5).2.1,(JA HS5).2.2.2.1,rfl⟩ hg' (by omega) (by omega) (by omega) 2 0 1 0 0 [] ZA zc (Rd.of_own hu2) (.inr (.inl ⟨rfl,by omega,by omega,by omega,rfl,rfl⟩)) rfl (.inl (by omega)) (.inr (.inl ⟨rfl,by simp,by simp,by simp;omega⟩)) (fun h=>absurd h (by omega))))
       | (go_at_call 12
          first
          | (refine hT1.mono ?_
             clear hT1
             rintro e V15 ⟨rfl,hk15⟩
             have hkc15:=hkc14.trans0 hk15
             have hb15:=hbS11.keep0 (((hk12.trans0 hk13).trans0 hk14).trans0 hk15)
             obtain ⟨_,_,_,_,f4,_⟩:=KI hb15)
          | (refine hT2.mono ?_
             clear hT2
             rintro e V17 ⟨ZB,zb,Fs2,Fx2,S2,rfl,_,hL2,⟨_,hs2,_⟩,_,_,hk17,_⟩)))
      have hb17:=(hb15.keep0 hk16).keep hk17 hgSn'
      have hcl2:∀ W,Keep [] V17 W→W.cell? ⟨t,2,none⟩=some (.pointer (some ⟨s,0,none⟩))∧W.cell? ⟨gS,4,none⟩=some (.int .i64 n4):=fun W hk=>by
       obtain ⟨_,_,_,_,f4,_⟩:=KI (hb17.keep0 hk)
       exact ⟨(hL2.keep0 hk).cells.2,f4⟩
      have hSc:∃ p0 p1 p2 p4 p5 p6 p7 p8 p9:Int,∀ W,Keep [] V17 W→Calls Tryz.prog 17 #[.pointer (some ⟨s,0,none⟩)] W fun e w'=>e = .returned (.agg #[.int .i64 p0,.int .i64 p1,.int .i64 p2,.int .i64 (n4+1),.int .i64 p4,.int .i64 p5,.int .i64 p6,.int .i64 p7,.int .i64 p8,.int .i64 p9])∧Keep [] W w':=
       ⟨(S2.st.mode:Nat),(S2.st.view:Nat),(S2.st.epoch:Nat),(S2.st.done:Nat),(S2.st.mount:Nat),(S2.st.gen:Nat),(ZE S2.us:Nat),(QAR S2:Nat),(YG S2.I.ol:Nat),fun W hk=>by
         have h:=QH W _ s d Fs2 B S2 (hL2.keep0 hk).rep.st
         rw [hs2,Int.natCast_add] at h
         rw [(JA HN).2]
         exact h⟩
      obtain ⟨p0,p1,p2,p4,p5,p6,p7,p8,p9,hSc⟩:=hSc
      refine KA (fun w'=>w'.cell? ⟨t,2,none⟩=some (.pointer (some ⟨s,0,none⟩))∧w'.cell? ⟨gS,4,none⟩=some (.int .i64 n4)) 16 [(0,false),(1,false),(2,false),(3,false),(4,false),(5,false),(6,false),(7,false),(8,false),(9,false),(10,false),(13,false),(14,false),(15,false),(11,true),(12,false)]
       (by kernel_rfl) (by kernel_rfl) (fun _ _ d _ _ h=>by cases d <;> exact h) (hcl2 _ (Keep.refl _ _).drew) ?_
      simp only [PI]
      iterate 14 (refine XB ?_ (by rfl) ?_ ?_;rotate_left;(focus (rintro W ⟨hW1,hW2⟩;go_simp;try with_reducible rfl));simp only [Act.put,PU])
      refine QC (by rfl) (fun K hK=>?_)
      go_wp2_with (refine (hSc _ (Keep.refl _ _).drew).mono ?_;clear hSc;rintro e V18 ⟨rfl,hk18⟩)
      replace hk18:=(Keep.refl [] V17).drew.trans0 hk18
      refine hK _ _ ((hcl2 _ hk18)) ?_
      clear hK K
      try simp only [Act.put,PU]
      have hfd:=fun W=>VF (P:=Tryz.prog) Tryz.underlying51 3 rfl Tryz.isAgg3 #[.int .i64 p0,.int .i64 p1,.int .i64 p2,.int .i64 (n4+1),.int .i64 p4,.int .i64 p5,.int .i64 p6,.int .i64 p7,.int .i64 p8,.int .i64 p9] rfl W
      iterate 1 (refine XB ?_ (by rfl) ?_ ?_;rotate_left;(focus (rintro W ⟨hW1,hW2⟩;go_simp;try with_reducible rfl));simp only [Act.put,PU])
      refine YC ?_
      go_wp2_with (refine (Yc _).mono ?_;rintro e V19 ⟨rfl,hk19⟩)
      go_ret
      exact ⟨rfl,((hkA.trans0 hL2.kept).trans0 hk18).trans0 hk19⟩
end
end Go.Proofs.YtmoagodllhdemaaGreat
