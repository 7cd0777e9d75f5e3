/-
  A part of the proof: lemmas, and contracts of functions; their conditions stand in them.
-/
import Derived.Test.YtmoagodllhdemaaGreatF48
import Derived.Test.YtmoagodllhdemaaGreatF09
namespace Go.Proofs.YtmoagodllhdemaaGreat
set_option linter.unusedSimpArgs false
set_option linter.unusedVariables false
set_option maxHeartbeats 16000000
set_option maxRecDepth 100000
section
open Go.RowKit Go.Shelf
theorem QAM (x0 x1:Int) (A:Option Addr) (len cap:Nat) (zs:List (Int×Int×Int)) (C:Option Addr) (nc ccap:Nat) (cs:List (Int×Int)) (w:World) (hz:PartsAt w A len zs) (hlen:len≤9223372036854775807) (hc:CamesAt w C nc cs) (hclen:nc≤9223372036854775807) :
 Calls Tryz.prog 5 #[.int .i64 x0,.int .i64 x1,.slice A len cap,.slice C nc ccap] w fun e w'=>e = .returned (.bool true)∧Keep [] w w':=by
 by_cases hb1:((len:Nat):Int)<1
 · go_enter Tryz.func5,Tryz.ntmps5
   go_wp2_with (refine (Xa _).mono ?_;rintro e w' ⟨rfl,hk⟩)
   go_ret
   exact ⟨rfl,hk⟩
 by_cases hb2:(40:Int)<(len:Nat)
 · go_enter Tryz.func5,Tryz.ntmps5
   go_wp2_with (refine (Xa _).mono ?_;rintro e w' ⟨rfl,hk⟩)
   go_ret
   exact ⟨rfl,hk⟩
 by_cases hb3:(120:Int)<(nc:Nat)
 · go_enter Tryz.func5,Tryz.ntmps5
   go_wp2_with (refine (Xa _).mono ?_;rintro e w' ⟨rfl,hk⟩)
   go_ret
   exact ⟨rfl,hk⟩
 have hl1:1≤len:=by omega
 have hl40:len≤40:=by omega
 have hn120:nc≤120:=by omega
 have hSm:=YAH x0 w
 have hY:=fun W B h1 h2=>Xp W B h1 h2
 obtain ⟨qn,hqn,hqnl⟩:∃ q:Nat,x1 % 16=(q:Int)∧q<16:=⟨(x1 % 16).toNat,by omega,by omega⟩
 have hRn:∀ W,Calls Tryz.prog 19 #[.int .i64 x1,.int .i64 16] W fun e w'=>e = .returned (.int .i64 (qn:Nat))∧W=w':=fun W=>by rw [← hqn];exact VO x1 16 W (by omega) (by omega)
 clear hqn
 go_enter Tryz.func5,Tryz.ntmps5
 go_wp2_with (first
  | (go_at_call 9
     refine hSm.mono ?_
     clear hSm
     rintro e w1 ⟨B,rfl,hB,hB1,hB2,hk1⟩
     have hbc:=Blk.new w1 28 #[.int .i64 (B:Nat),.int .i64 8,.int .i64 24]
     have hkA:Keep [] w (w1.alloc (.cells #[.int .i64 (B:Nat),.int .i64 8,.int .i64 24] 28)):=hk1.alloc _
     have hY1:=hY (w1.alloc (.cells #[.int .i64 (B:Nat),.int .i64 8,.int .i64 24] 28)) B hB1 (by omega)
     clear hY hB)
  | (go_at_call 19;refine (hRn _).mono ?_;clear hRn;rintro e w' ⟨rfl,rfl⟩)
  | (go_at_call 8
     refine hY1.mono ?_
     clear hY1
     rintro e w2 ⟨t,d,s,F,D,rfl,hYd⟩
     obtain ⟨mm,xx,hbt,hst,hgood,_,_,hk2⟩:=id hYd
     have t0:w2.cell? ⟨t,0,none⟩=some (.pointer (some ⟨d,0,none⟩)):=by simpa using hbt.cell 0
     have t2:w2.cell? ⟨t,2,none⟩=some (.pointer (some ⟨s,0,none⟩)):=by simpa using hbt.cell 2
     have hN4:Calls Tryz.prog 10 #[.pointer (some ⟨s,0,none⟩),.int .i64 ((1+qn:Nat):Int)] w2 _:=JAQ w2 _ s d F B (PS.fresh B D) hst (by simp [PS.fresh]) (1+qn) (by omega) (by omega) rfl (by simp [PS.fresh]) hk2.size
     simp only [Int.natCast_add] at hN4
     have htl:=hbt.lt)
  | (go_at_call 10
     refine hN4.mono ?_
     clear hN4
     rintro e w3 ⟨r,x,Fx,rfl,hr,hk3,hfr⟩
     have hL3:=LawSt.new hYd hr hk3 hfr
     have hbc3:=(hbc.keep0 hk2).keep0 hk3
     have hkB:=hkA.trans0 hL3.kept
     obtain ⟨c0,c1,c2⟩:=JC hbc3
     have hOp:=ZAj w3 B ⟨hB1,by omega⟩ A len cap zs (hz.keep0 hkB) (by omega))
  | (go_at_call 11
     refine hOp.mono ?_
     clear hOp
     rintro e w4 ⟨OA,oc,oz,rfl,hoz,hO,hk4⟩
     have hL4:=hL3.keep0 hk4
     have hbc4:=hbc3.keep0 hk4)
  | (at_make
     refine elemBool.wp_make rfl _ _ rfl .i64 .i64 (len+1) (by rfl) (by rfl) (by omega) (by omega) ?_
     intro w5 g5 hg5 hs5 hb5 hk5
     obtain rfl:g5=w4.heap.size:=hg5
     have hbc5:=hbc4.keep0 hk5
     have hNI:=YAA B hB1 (by omega) w5
     obtain ⟨d0,d1,d2⟩:=JC hbc5)
  | (go_at_call 28
     refine hNI.mono ?_
     clear hNI
     rintro e w6 ⟨ii,FI,rfl,hI,hk6⟩))
 have hthr:Blk w5 w4.heap.size 4 ((List.replicate (len+1) false).map Value.bool).toArray:=by
  have h:=hb5
  rw [show (Value.bool false).cells=Array.replicate 1 (Value.bool false) from rfl,QM _ _ _ (by omega)] at h
  simpa using h
 have hlt3:=hL3.rep.lt
 have h34:=hk4.size
 have h56:=hk5.size
 have htl3:=hL3.lt
 have hIl:=hI.lt
 have hA3:=hL3.kept.size
 have hSt:FSt (w1.alloc (.cells #[.int .i64 (B:Nat),.int .i64 8,.int .i64 24] 28)) w6 B t r s d x ii w4.heap.size w5.heap.size w3.heap.size F Fx FI ⟨PS.fresh B D,0+1,YD (1+qn)⟩ (PIdl.new B) (List.replicate (len+1) false) OA len oc oz:=by
  refine ⟨(hL4.keep0 hk5).keep0 hk6,hI,hthr.keep0 hk6,fun y hy hm=>?_,fun hm=>?_,fun hm=>?_,fun hm=>?_,?_,((hO.between (fun y hy=>?_)).keep0 hk5).keep0 hk6,?_,?_⟩
  · have:=hlt3 y hy;have:=(hIl y hm).1;omega
  · have:=hlt3 _ hm;omega
  · have:=(hIl _ hm).1;omega
  · have:=(hIl _ hm).1;omega
  · omega
  · rcases List.mem_append.1 hy with hy | hy
    · exact .inl (hlt3 y hy)
    · rcases List.mem_cons.1 hy with rfl | hy
      · right;omega
      · right;have:=(hIl y hy).1;omega
  · omega
  · omega
 have hF0:Hid (FRel B len (1+qn) 0 (XAA B zs) ⟨PS.fresh B D,0+1,YD (1+qn)⟩ (List.replicate (len+1) false)):=XC (FRel.new (by omega) (QAU hgood rfl rfl rfl rfl rfl) rfl)
 have hOPS:=VAx ⟨hB1,show B≤64 by omega⟩ zs (len:=len) (by omega)
 obtain ⟨ob,oo,_,_,_,_,_,_,_,_,rfl,_⟩:=hSt.opCells ⟨hB1,by omega⟩ hoz (show 0<len by omega) hl40
 have HOZ:=XC hoz
 have HOPS:=XC hOPS
 generalize hwA:w1.alloc (.cells #[.int .i64 (B:Nat),.int .i64 8,.int .i64 24] 28)=wA at *
 generalize hR0:(⟨PS.fresh B D,0+1,YD (1+qn)⟩:RS)=R0 at *
 have hI0:PIdl.new B=idl B (XAA B zs) 0:=rfl
 rw [hI0] at hSt
 generalize w4.heap.size=tb at *
 generalize w5.heap.size=ib at *
 generalize w3.heap.size=oB at *
 clear hwA hR0 hI0 hoz hOPS hthr hlt3 h34 h56 htl3 hIl hA3 hL4 hL3 hO hI hb5 hbc hbc3 hbc4 hbc5 hk6 hk5 hk4 hk3 hk2 hk1 hfr hr t0 t2 c0 c1 c2 d0 d1 d2 hYd hbt hst htl hkB hgood hs5
 have hB64:B≤64:=by omega
 go_loopw [16,18] (fun nv iv wr=>∃ (q nx:Nat) (Fs Fx FI:List Nat) (R:RS) (th:List Bool),q≤nc∧nv = .int .i64 (nx:Nat)∧iv = .int .i64 (q:Nat)∧FSt wA wr B t r s d x ii tb ib oB Fs Fx FI R (idl B (XAA B zs) nx) th (some ⟨ob,oo,none⟩) len oc oz∧Hid (FRel B len (1+qn) nx (XAA B zs) R th)) (fun _ iv _=>nc-(intOf iv).toNat)
 case atStart=>exact ⟨0,0,F,Fx,FI,R0,_,Nat.zero_le _,rfl,rfl,hSt,hF0⟩
 case round=>
  clear hSt hF0
  obtain ⟨q,nx,Fs,Fx,FI,R,th,hq,rfl,rfl,hS,hF⟩:=hrel
  by_cases hlt:q<nc
  · obtain ⟨cb,co,ci,cbit,rfl,hcbl,hcc⟩:=hc.at_ (hkA.trans0 hS.kept) hlt
    obtain ⟨c0,c1⟩:=hcc _ (Keep.refl _ _)
    obtain ⟨j,hj,hjl⟩:∃ j:Nat,ci % (len:Nat)=(j:Int)∧j<len:=⟨(ci % (len:Nat)).toNat,by have:=Int.emod_nonneg ci (show ((len:Nat):Int)≠0 by omega);omega,by have:=Int.emod_nonneg ci (show ((len:Nat):Int)≠0 by omega);have:=Int.emod_lt_of_pos ci (show (0:Int)<((len:Nat):Int) by omega);omega⟩
    have hRj:∀ W,Calls Tryz.prog 19 #[.int .i64 ci,.int .i64 (len:Nat)] W fun e w'=>e = .returned (.int .i64 (j:Nat))∧W=w':=fun W=>by rw [← hj];exact VO ci (len:Nat) W (by omega) (by omega)
    clear hj
    obtain ⟨ob',oo',k1,b1,c1',e1,n1,dc,xs,DA,hOA,hOp,hn1,hn64,hndc,⟨o0,o1,o2,o3,o4⟩,hda,hobl⟩:=hS.opCells ⟨hB1,hB64⟩ (ZA HOZ) hjl hl40
    cases hOA
    have hW:Calls Tryz.prog 13 #[.int .i64 ((1:Nat):Int),.int .i64 (((j+1:Nat)):Int),.agg #[.int .i64 k1,.int .i64 b1,.int .i64 c1',.int .i64 e1,.slice DA n1 dc]] wr _:=VAC 1 (j+1) k1 b1 c1' e1 n1 dc DA xs (by omega) (by omega) (hn1 ▸ hOp.may) wr hda hndc
    rw [Int.natCast_add] at hW
    have HN1:=XC hn1
    clear hn1
    have hx40:nx≤40:=by have:=(ZA hF).win.nle;omega
    have hthl:j<th.length:=by have:=(ZA hF).win.thl;omega
    have hj1:j<len+1:=by omega
    by_cases hbit:(0:Int)≤cbit
    · go_wp2_with (first
       | (go_at_call 19;refine (hRj _).mono ?_;clear hRj;rintro e w' ⟨rfl,rfl⟩)
       | (go_at_call 13
          refine hW.mono ?_
          clear hW
          rintro e w5 ⟨u,rfl,hu,hk5⟩
          obtain ⟨UA,uc,rfl,huc,_⟩:=ZB hu
          obtain ⟨e0,e1⟩:=hcc _ hk5
          have hSp:=Kw UA (25+n1) uc _ cbit w5 (Rd.of_own hu) (by omega) (by omega) huc
          obtain ⟨f,hf,hfl⟩:∃ f:Nat,(cbit % (8*((25+n1:Nat):Int))).toNat=f∧f<8*(25+n1):=⟨_,rfl,by have:=Int.emod_nonneg cbit (show (8*((25+n1:Nat):Int))≠0 by omega);have:=Int.emod_lt_of_pos cbit (show (0:Int)<8*((25+n1:Nat):Int) by omega);omega⟩
          rw [hf] at hSp
          clear hf)
       | (go_at_call 29
          refine hSp.mono ?_
          clear hSp
          rintro e w6 ⟨u,rfl,hu6,hk6⟩
          obtain ⟨UG,ug,rfl,_⟩:=ZB hu6
          have hT:=Jt r UG (25+n1) ug w6 (Zv UG (25+n1) ug _ w6 (Rd.of_own hu6) (by omega) (by omega) (Zn k1 1 (j+1) b1 c1' _ 0 f xs (21+n1) (by have:=ZA HN1;omega) (by omega))))
       | (go_at_call 12
          refine hT.mono ?_
          clear hT
          rintro e w7 ⟨rfl,hk7⟩
          have hS7:=hS.keep0 ((hk5.trans0 hk6).trans0 hk7)
          obtain ⟨y0,y2⟩:=hS7.law.cells
          have hStd:=hS7.stands (ZA hF).stm rfl)
       | (go_at_call 30
          refine hStd.mono ?_
          clear hStd
          rintro e w8 ⟨rfl,hk8⟩))
      go_roundw
      case rel=>exact ⟨q+1,nx,Fs,Fx,FI,R,th,by omega,rfl,by go_num,hS7.keep0 hk8,hF⟩
      case measure=>simp [intOf];omega
    · by_cases hth:th.getD j false=true
      · go_wp2_with (first
         | (go_at_call 19;refine (hRj _).mono ?_;clear hRj;rintro e w' ⟨rfl,rfl⟩)
         | (go_at_call 13
            refine hW.mono ?_
            clear hW
            rintro e w5 ⟨u,rfl,hu,hk5⟩
            obtain ⟨UA,uc,rfl,huc,_⟩:=ZB hu
            obtain ⟨e0,e1⟩:=hcc _ hk5
            have hT:=(hS.keep0 hk5).again (ZA hF) hl40 hjl hOp (ZA HN1) (Rd.of_own hu) hth (cp:=uc))
         | (go_at_call 12
            refine hT.mono ?_
            clear hT
            rintro e w7 ⟨VA,vc,rfl,hTl,hk7⟩
            have hS7:=hS.keep0 (hk5.trans0 hk7)
            obtain ⟨y0,y2⟩:=hS7.law.cells
            have ht7:=hS7.there hthl
            rw [hth] at ht7
            have hTe:=hS7.tells hTl (uc:=vc))
         | (go_at_call 25
            refine hTe.mono ?_
            clear hTe
            rintro e w8 ⟨rfl,hk8⟩
            have hS8:=hS7.keep0 hk8
            obtain ⟨z0,z2⟩:=hS8.law.cells
            have hNx:=hS8.next (ZA hF)
            have hStd:=hS8.stands (ZA hF).stm rfl)
         | (go_at_call 27;refine hNx.mono ?_;clear hNx;rintro e w' ⟨rfl,rfl⟩)
         | (go_at_call 30
            refine hStd.mono ?_
            clear hStd
            rintro e w9 ⟨rfl,hk9⟩))
        go_roundw
        case rel=>exact ⟨q+1,nx,Fs,Fx,FI,R,th,by omega,rfl,by go_num,hS8.keep0 hk9,hF⟩
        case measure=>simp [intOf];omega
      · have hno:th.getD j false=false:=by simpa using hth
        clear hth
        by_cases hfar:nx+(1+qn)≤j
        · have hfarI:((nx:Nat):Int)+(1+(qn:Nat))≤(j:Nat):=by omega
          go_wp2_with (first
           | (go_at_call 19;refine (hRj _).mono ?_;clear hRj;rintro e w' ⟨rfl,rfl⟩)
           | (go_at_call 13
              refine hW.mono ?_
              clear hW
              rintro e w5 ⟨u,rfl,hu,hk5⟩
              obtain ⟨UA,uc,rfl,huc,_⟩:=ZB hu
              obtain ⟨e0,e1⟩:=hcc _ hk5
              have hT:=(hS.keep0 hk5).far (ZA hF) hl40 hjl hOp (ZA HN1) (Rd.of_own hu) hfar (cp:=uc))
           | (go_at_call 12
              refine hT.mono ?_
              clear hT
              rintro e w7 ⟨rfl,hk7⟩
              have hS7:=hS.keep0 (hk5.trans0 hk7)
              obtain ⟨y0,y2⟩:=hS7.law.cells
              have ht7:=hS7.there hthl
              rw [hno] at ht7
              have hNx:=hS7.next (ZA hF)
              have hStd:=hS7.stands (ZA hF).stm rfl)
           | (go_at_call 27;refine hNx.mono ?_;clear hNx;rintro e w' ⟨rfl,rfl⟩)
           | (go_at_call 30
              refine hStd.mono ?_
              clear hStd
              rintro e w9 ⟨rfl,hk9⟩))
          go_roundw
          case rel=>exact ⟨q+1,nx,Fs,Fx,FI,R,th,by omega,rfl,by go_num,hS7.keep0 hk9,hF⟩
          case measure=>simp [intOf];omega
        · have hfarI:¬ ((nx:Nat):Int)+(1+(qn:Nat))≤(j:Nat):=by omega
          go_wp2_with (first
           | (go_at_call 19;refine (hRj _).mono ?_;clear hRj;rintro e w' ⟨rfl,rfl⟩)
           | (go_at_call 13
              refine hW.mono ?_
              clear hW
              rintro e w5 ⟨u,rfl,hu,hk5⟩
              obtain ⟨UA,uc,rfl,huc,_⟩:=ZB hu
              obtain ⟨e0,e1⟩:=hcc _ hk5
              have hT:=(hS.keep0 hk5).new_ (ZA hF) hl40 hjl hOp (ZA HN1) (Rd.of_own hu) (ZA HOPS) hno (by omega) (cp:=uc))
           | (go_at_call 12
              refine hT.mono ?_
              clear hT
              rintro e w7 ⟨g,vc,n',Fs',Fx',R',rfl,hTl,⟨hg1,hg2⟩,hS7,hF',hnn',hall⟩
              have HF':=XC hF'
              have HALL:=XC hall
              have HTL:=XC hTl
              have hgI:g∉FI:=fun hm=>by have:=((hS.keep0 hk5).dev.lt g hm).2;omega
              have hgt:g≠tb:=fun e=>by have:=(hS.keep0 hk5).thr.lt;omega
              clear hF' hall hTl
              have ht7:=hS7.there hthl
              rw [hno] at ht7
              have hfz:=hS7.thr.frozen j
              have htbl:=hS7.thr.lt))
          have hS8:=hS7.came j
          have HT8:Hid (FSt.Tell R' (w7.setCell ⟨tb,j,none⟩ (.bool true)) (some ⟨g,0,none⟩)):=XC (FSt.Tell.keep (ZA HTL) ((Keep.refl [tb] w7).setCell (p:=⟨tb,j,none⟩) (.inl (by simp)) (.bool true)) (by simpa using hgt))
          have hg8:g<(w7.setCell ⟨tb,j,none⟩ (.bool true)).heap.size:=by simpa using hg2
          generalize w7.setCell ⟨tb,j,none⟩ (.bool true)=w8 at *
          clear HTL ht7 hfz htbl hS7 hg1 hg2 hk5 hu
          obtain ⟨wo,hwo⟩:∃ wo:World,wo=wr:=⟨_,rfl⟩
          have hth':(th.set j true).length=len+1:=(ZA HF').win.thl
          have hst':(th.set j true).getD n' false=false:=(ZA HF').stop
          have hnl':n'≤len:=(ZA HF').win.nle
          go_loopw [16] (fun nv wq=>∃ (m:Nat) (FI':List Nat),nv = .int .i64 (m:Nat)∧nx≤m∧m≤n'∧FSt wA wq B t r s d x ii tb ib oB Fs' Fx' FI' R' (idl B (XAA B zs) m) (th.set j true) (some ⟨ob,oo,none⟩) len oc oz∧Hid (FSt.Tell R' wq (some ⟨g,0,none⟩))∧g∉FI'∧g<wq.heap.size) (fun nv _=>n'-(intOf nv).toNat)
          case atStart=>exact ⟨nx,FI,rfl,Nat.le_refl _,hnn',hS8,HT8,hgI,hg8⟩
          case round=>
           clear hS8 HT8 hgI hg8
           obtain ⟨m,FI',rfl,hm1,hm2,hSm,hTm,hgm,hgl⟩:=hrel
           have htm:=hSm.there (j:=m) (by omega)
           have hml:m<len+1:=by omega
           by_cases hmn:m<n'
           · rw [(ZA HALL) m hm1 hmn] at htm
             obtain ⟨ob2,oo2,k2,b2,c2,e2,n2,dc2,xs2,DA2,hOA2,hOp2,hn2,hn264,hndc2,⟨p0,p1,p2,p3,p4⟩,hda2,hobl2⟩:=hSm.opCells ⟨hB1,hB64⟩ (ZA HOZ) (show m<len by omega) hl40
             cases hOA2
             have hDo:=hSm.does ⟨hB1,hB64⟩ (ZA HOPS) (show m<len by omega) hl40 hOp2 hn2 hndc2 hda2
             have HN2:=XC hn2
             clear hn2
             go_wp2_with (
              (refine hDo.mono ?_)
              clear hDo
              rintro e wz ⟨rfl,FI2,hS2,hk2,hg2⟩)
             go_roundw
             case rel=>exact ⟨m+1,FI2,by go_num,by omega,by omega,hS2,XC (FSt.Tell.keep (ZA hTm) hk2 hgm),fun hm=>(hg2 g hm).elim hgm (by omega),hk2.lt hgl⟩
             case measure=>simp [intOf];omega
           · obtain rfl:m=n':=by omega
             rw [hst'] at htm
             have hTe:=hSm.tells (ZA hTm) (uc:=vc)
             obtain ⟨y0,y2⟩:=hSm.law.cells
             go_wp2_with (first
              | (go_at_call 25
                 refine hTe.mono ?_
                 clear hTe
                 rintro e w9 ⟨rfl,hk9⟩
                 have hS9:=hSm.keep0 hk9
                 obtain ⟨z0,z2⟩:=hS9.law.cells
                 have hNx:=hS9.next (ZA HF')
                 have hStd:=hS9.stands (ZA HF').stm rfl)
              | (go_at_call 27;refine hNx.mono ?_;clear hNx;rintro e w' ⟨rfl,rfl⟩)
              | (go_at_call 30
                 refine hStd.mono ?_
                 clear hStd
                 rintro e w10 ⟨rfl,hk10⟩))
             go_roundw
             case rel=>exact ⟨q+1,m,Fs',Fx',FI',R',th.set j true,by omega,rfl,by go_num,hS9.keep0 hk10,HF'⟩
             case measure=>simp [intOf];omega
  · obtain rfl:q=nc:=by omega
    go_wp2_with (refine (Xa _).mono ?_;rintro e w' ⟨rfl,hk⟩)
    go_ret
    exact ⟨rfl,(hkA.trans0 hS.kept).trans0 hk⟩
end
end Go.Proofs.YtmoagodllhdemaaGreat
