/- Lemmas of the proof, with their conditions. -/
import Derived.Test.YthgphmfipnjllaaGreatV49
namespace Go.Proofs.YthgphmfipnjllaaGreat
set_option linter.unusedSimpArgs false
set_option linter.unusedVariables false
set_option maxHeartbeats 16000000
set_option maxRecDepth 100000
section
open Go.RowKit Go.Shelf
theorem JAK {bl ol:List Int} (hl:bl.length=ol.length) (i:Nat) (hi:i<ol.length):(Xb bl ol ol.length).getD i 0=if ol.getD i 0 = -1 then bl.getD i 0 else ol.getD i 0:=by
 unfold Xb
 rw[List.drop_of_length_le (by omega),List.append_nil,List.take_of_length_le (by simp;omega),List.getD_eq_getElem?_getD,List.getD_eq_getElem?_getD,List.getD_eq_getElem?_getD,
  List.getElem?_eq_getElem (by simp;omega),List.getElem?_eq_getElem hi,List.getElem?_eq_getElem (show i<bl.length by omega)]
 simp
theorem JAr (ol:List Int) (i:Nat):(Ze ol ol.length).getD i 0≤0:=by
 unfold Ze
 rw[List.drop_of_length_le (Nat.le_refl _),List.append_nil,List.getD_eq_getElem?_getD,List.getElem?_replicate]
 split <;> simp
theorem KAn {S S1 S2 S3:PS} {a0 a1:Nat} {B:Nat} (hB:2≤B) (hbl:S.I.bl.length=B) (hol:S.I.ol.length=B) (h0:0<a0) (h1:0<a1) (e1:S1.I.ol=S.I.ol.set 0 (a0:Nat)) (e2:S2.I.ol=S1.I.ol.set 1 (a1:Nat)) (f1:S1.I.bl=S.I.bl) (f2:S2.I.bl=S1.I.bl)
 (g1:S3.I.bl=Xb S2.I.bl S2.I.ol S2.I.ol.length) (g2:S3.I.ol=Ze S2.I.ol S2.I.ol.length) :
 (∀ j,S3.I.ol.getD j 0≤0)∧2≤(KE S3.I.bl S3.I.ol S3.I.bl.length).length:=by
 have l2:S2.I.ol.length=B:=by rw[e2,e1];simp[hol]
 have m2:S2.I.bl.length=B:=by rw[f2,f1];exact hbl
 have l3:S3.I.bl.length=B:=by rw[g1,Qa (by omega) (by omega),m2]
 have o0:S2.I.ol.getD 0 0=(a0:Nat):=by rw[e2,ZS _ _ _ _ (by rw[e1];simp;omega),if_neg (by omega),e1,ZS _ _ _ _ (by omega),if_pos rfl]
 have o1:S2.I.ol.getD 1 0=(a1:Nat):=by rw[e2,ZS _ _ _ _ (by rw[e1];simp;omega),if_pos rfl]
 have b0:S3.I.bl.getD 0 0=(a0:Nat):=by rw[g1,JAK (by omega) 0 (by omega),o0,if_neg (by omega)]
 have b1:S3.I.bl.getD 1 0=(a1:Nat):=by rw[g1,JAK (by omega) 1 (by omega),o1,if_neg (by omega)]
 refine⟨fun j=>by rw[g2];exact JAr _ _,?_⟩
 have r0:=JS (bl:=S3.I.bl) (ol:=S3.I.ol) (k:=S3.I.bl.length) (b:=0) (by omega) (by omega)
 have r1:=JS (bl:=S3.I.bl) (ol:=S3.I.ol) (k:=S3.I.bl.length) (b:=1) (by omega) (by omega)
 generalize KE S3.I.bl S3.I.ol S3.I.bl.length=l at *
 rcases l with _ | ⟨x,_ | ⟨y,l⟩⟩
 · simp at r0
 · simp only[List.mem_singleton] at r0 r1
   have:=r0.trans r1.symm
   simp at this
 · simp
theorem Jm {w0 w w1:World} {B t d s k g tt p m:Nat} {Fd Ft Fw Fm:List Nat} {L0 L1:Value} {S:PS} {I':PImage} {a b xa:Nat} (h:AuSt w0 w B t d s k (XO s g Fd Ft Fw Fm L0 L1) S)
 (hS:StoreIs w1 w0.heap.size s d g tt p m Fd Ft Fw Fm L0 L1 B { S with I:=I' }) (hbl':I'.bl=S.I.bl.set b (xa:Nat)) (hol':I'.ol=S.I.ol) (ho:∀ j,S.I.ol.getD j 0≤0) (hb:b<B) (hab:a≠b) (hxa:S.I.bl.getD a 0=(xa:Nat)) (h0:0<xa) :
 ∃ (q M:Nat) (xs:List Value),1≤q∧max (a:Int) (b:Int)=(M:Nat)∧Hid (xs[0]? = some (.int .i64 1)∧xs[1]? = some (.int .i64 ((xa-(6+4*pgs B)) / 24:Nat))∧xs[2]? = some (.int .i64 (M:Nat)))∧(2≤q→∃ c:Nat,1<c∧xs[3]? = some (.int .i64 (c:Nat))) ∧
   (∀ w2,Keep [] w1 w2→Calls Tryz.prog 19 #[.pointer (some ⟨s,0,none⟩)] w2 fun e w'=>∃ U,e=.returned (.tuple #[U,.int .i64 0])∧w'.ownsRow w2.heap.size 59 3 U q xs∧Keep [] w2 w') ∧
   ∀ w2,Keep [] w1 w2→Calls Tryz.prog 15 #[.pointer (some ⟨s,0,none⟩)] w2 fun e w'=>e=.returned (.bool false)∧Keep [] w2 w':=by
 obtain⟨rest,hr,hL,hF⟩:=JAR h hS hbl' hol' ho hb hab hxa h0
 refine⟨rest.length+1,max a b,_,by omega,by omega,ZB ⟨rfl,rfl,rfl⟩,fun h2=>?_,hL,hF⟩
 rcases rest with _ | ⟨f,rest⟩
 · simp at h2
 · exact⟨f.1,hr f (by simp),rfl⟩
theorem Xh {rs:List PRnd} {i:Nat} {q:PRnd} (c:Nat) {u:Value} (h:rs[i]? = some q) (hu:(ZAt q)[c]? = some u):(rs.flatMap ZAt)[i*2+c]? = some u:=by
 obtain⟨hi,rfl⟩:=List.getElem?_eq_some_iff.1 h
 have hc:c<2:=(List.getElem?_eq_some_iff.1 hu).1
 rw[VO (f:=ZAt) (s:=2) (fun _=>rfl) rs i c hi hc]
 exact hu
theorem ZAI {bl ol:List Int} {i j a b:Nat} {za zb:Int} (ho:∀ c,ol.getD c 0≤0) (hi:(KE bl ol bl.length)[i]? = some (a,za)) (hj:(KE bl ol bl.length)[j]? = some (b,zb)) (hij:i≠j) :
 a≠b∧b<bl.length∧bl.getD a 0=za∧0<za:=by
 obtain⟨ia,ea⟩:=List.getElem?_eq_some_iff.1 hi
 obtain⟨ib,eb⟩:=List.getElem?_eq_some_iff.1 hj
 have hp:=List.pairwise_iff_getElem.1 (Zd (bl:=bl) ho bl.length)
 obtain⟨-,h0,h1⟩:=XM (List.mem_of_getElem? hi)
 obtain⟨hb,-,-⟩:=XM (List.mem_of_getElem? hj)
 refine⟨fun e=>?_,hb,?_,h0⟩
 · rcases Nat.lt_trichotomy i j with h | h | h
   · have:=hp i j ia ib h;rw[ea,eb] at this;simp only at this;omega
   · exact hij h
   · have:=hp j i ib ia h;rw[ea,eb] at this;simp only at this;omega
 · rcases h1 with h1 | h1
   · exact h1
   · have:=ho a;omega
theorem AuSt.allrefs {w0 w:World} {B t d s k:Nat} {F:List Nat} {S:PS} (h:AuSt w0 w B t d s k F S):Calls Tryz.prog 16 #[.pointer (some ⟨s,0,none⟩)] w fun e w'=>∃ U,e=.returned U∧w'.ownsRow w.heap.size 50 2 U (KE S.I.bl S.I.ol S.I.bl.length).length ((KE S.I.bl S.I.ol S.I.bl.length).flatMap ZAt)∧Keep [] w w':=by
 obtain⟨g,tt,p,m,Fd,Ft,Fw,Fm,L0,L1,hS,rfl⟩:=h.st
 exact XAl w _ s d g tt p m Fd Ft Fw Fm L0 L1 B S hS h.good.b64
theorem ZAG (x:Int) (A:Option Addr) (len cap:Nat) (zs:List Int) (y0 y1:Int) (w:World) (hz:Rd w A len (VS zs)) (hlen:len≤9223372036854775807) :
 Calls Tryz.prog 3 #[.int .i64 x,.slice A len cap,.agg #[.int .i64 y0,.int .i64 y1]] w fun e w'=>e=.returned (.bool true)∧Keep [] w w':=by
 have hAw:=fun W=>KAF W
 by_cases hsm:len<2∨30<len
 · have hs2:(((len:Nat):Int)<2)∨(¬ ((len:Nat):Int)<2∧(30:Int)<(len:Nat)):=by omega
   clear hsm
   go_enter Tryz.func3,Tryz.ntmps3
   rcases hs2 with hs2 | ⟨hs2,hs3⟩
   all_goals
    go_wp2_with (refine(hAw _).mono ?_;rintro e w' ⟨rfl,hk⟩)
    go_ret
    exact⟨rfl,((Keep.refl _ _).alloc _).trans0 hk⟩
 have hl2:¬ ((len:Nat):Int)<2:=by omega
 have hl3:¬ (30:Int)<(len:Nat):=by omega
 have hl30:len≤30:=by omega
 clear hsm
 obtain⟨r,hr,hr19⟩:∃ r:Nat,x % 19=(r:Int)∧r<19:=⟨(x % 19).toNat,by omega,by omega⟩
 have hR19:=fun W=>QP x 19 W (by omega) (by omega)
 rw[hr] at hR19
 clear hr
 have hY:=fun W=>Qj W (2+r) (by omega) (by omega)
 rw[show ((2+r:Nat):Int)=2+(r:Nat) by omega] at hY
 have hwb:=Blk.new w 23 #[.int .i64 y0,.int .i64 y1]
 go_enter Tryz.func3,Tryz.ntmps3
 go_wp2_with (first
  | (go_at_call 10
     refine(hR19 _).mono ?_
     clear hR19
     rintro e w' ⟨rfl,rfl⟩)
  | (go_at_call 11
     refine(hY _).mono ?_
     clear hY
     rintro e w2 ⟨t,d,s,F,D,rfl,hYd,hfm⟩))
 have hA0:=AuSt.new hYd hfm
 have hbc:=Blk.new (w.alloc (.cells #[.int .i64 y0,.int .i64 y1] 23)) 27 #[.int .i64 (2+(r:Nat)),.int .i64 8,.int .i64 24]
 have hkA:Keep [] w ((w.alloc (.cells #[.int .i64 y0,.int .i64 y1] 23)).alloc (.cells #[.int .i64 (2+(r:Nat)),.int .i64 8,.int .i64 24] 27)):=((Keep.refl _ _).alloc _).alloc _
 have hbw:=hwb.keep0 (w':=(w.alloc (.cells #[.int .i64 y0,.int .i64 y1] 23)).alloc (.cells #[.int .i64 (2+(r:Nat)),.int .i64 8,.int .i64 24] 27)) ((Keep.refl _ _).alloc _)
 have hep0:Hid ((PS.fresh (2+r) D).st.epoch=0):=ZB rfl
 clear hYd hfm hwb
 generalize PS.fresh (2+r) D=S0 at *
 generalize (w.alloc (.cells #[.int .i64 y0,.int .i64 y1] 23)).alloc (.cells #[.int .i64 (2+(r:Nat)),.int .i64 8,.int .i64 24] 27)=wA at *
 obtain⟨B,hB⟩:∃ B,B=2+r:=⟨_,rfl⟩
 have hBI:(2+(r:Nat):Int)=(B:Nat):=by omega
 rw[World.size_alloc,hBI] at hbc
 rw[← hB] at hA0
 have hB2:2≤B:=by omega
 have hB20:B≤20:=by omega
 have HB:=ZB hB
 clear hB hBI hr19
 have HL:Hid (zs.length=len):=ZB (by simpa using hz.1)
 go_loopw [10] (fun i wr=>∃ (k:Nat) (F:List Nat) (S:PS),k≤len∧i=.int .i64 (k:Nat)∧AuSt wA wr B t d s k F S∧Hid (S.st.epoch=0)) (fun i _=>len-(intOf i).toNat)
 case atStart=>exact⟨0,F,S0,by omega,rfl,hA0,hep0⟩
 case round=>
  clear hA0 hep0
  obtain⟨k,F,S,hk,rfl,hA,hep⟩:=hrel
  have hkw:=hkA.trans0 hA.kept
  have hbc':=hbc.keep0 hA.kept
  have g0:wr.cell? ⟨w.heap.size+1,0,none⟩=some (.int .i64 (B:Nat)):=by simpa using hbc'.cell 0
  clear hbc'
  have gt:=hA.cell
  have hkd:Keep [] wr wr.drew:=(Keep.refl _ _).drew
  by_cases hlt:k<len
  · have hkl:k<zs.length:=by rw[QA HL];exact hlt
    obtain⟨b1,o1,u1,rfl,hx1,hb1,hc1⟩:=(hz.keep hkw).at_ hlt
    obtain rfl:u1=.int .i64 zs[k]:=by simp only[VS,List.getElem?_map,List.getElem?_eq_getElem hkl,Option.map_some,Option.some.injEq] at hx1;exact hx1.symm
    clear hx1
    generalize zs[k]=z at *
    obtain⟨b,hb,hbB⟩:∃ b:Nat,z % (B:Nat)=(b:Int)∧b<B:=⟨(z % (B:Nat)).toNat,by have:=Int.emod_nonneg z (show (B:Int)≠0 by omega);omega,by have:=Int.emod_nonneg z (show (B:Int)≠0 by omega);have:=Int.emod_lt_of_pos z (show (0:Int)<B by omega);omega⟩
    have hRB:=fun W=>QP z (B:Nat) W (by omega) (by omega)
    have hFi:=fun W=>Yi (k:Nat) W
    rw[hb] at hRB
    clear hb
    go_wp2
    refine ZT (fun W=>W.cell? ⟨t,2,none⟩=some (.pointer (some ⟨s,0,none⟩))∧W.cell? ⟨b1,o1+k,none⟩=some (.int .i64 z)∧W.cell? ⟨w.heap.size+1,0,none⟩=some (.int .i64 (B:Nat))) 13 [[0,1,2,3,4,5,6,7,8,9,11],[10],[12]] ⟨gt,hc1,g0⟩ ?_
    simp only[PI]
    iterate 11 (refine ZH ?_;simp only[Act.put,PU])
    refine XB (by rfl) (fun K hK=>?_)
    go_wp2_with (refine(hRB _).mono ?_;clear hRB;rintro e w' ⟨rfl,rfl⟩)
    refine hK _ _ (⟨gt,hc1,g0⟩) ?_
    clear hK K
    try simp only[Act.put,PU]
    refine XB (by rfl) (fun K hK=>?_)
    go_wp2_with (refine(hFi _).mono ?_;clear hFi;rintro e w3 ⟨u,rfl,hu3,hk3⟩;obtain⟨U3,c3,rfl,_⟩:=QB hu3)
    have hA3:=hA.keep0 (hkd.trans0 hk3)
    have hc13:=hc1
    have hkx:Keep [] wr w3:=hkd.trans0 hk3
    refine hK _ _ (⟨hA3.cell,(hkx.cell hb1 (by simp) _).trans hc1,(hkx.cell (by have:=hA.kept.size;have:=hkA.size;have:=hbc.lt;omega) (by simp) _).trans g0⟩) ?_
    clear hK K
    try simp only[Act.put,PU]
    refine JB ?_
    have hWr:=hA3.write (by omega) b hbB (k:Nat) U3 c3 (Rd.of_own hu3) (fun x hx hm=>by have q1:=hA.st.lt _ hm;have q2:=(own_mem hu3 (g:=x.block) (by rw[hx];simp[Value.ownBlock])).1;have:wr.drew.heap.size=wr.heap.size:=rfl;omega)
    go_wp2_with (refine hWr.mono ?_;clear hWr;rintro e w4 ⟨rfl,F4,S4,a4,hA4,-,-,-,he4⟩)
    go_roundw
    case rel=>exact⟨k+1,F4,S4,by omega,by go_num,hA4,ZB (he4.trans (QA hep))⟩
    case measure=>simp[intOf];omega
  · obtain rfl:k=len:=by omega
    clear hz hlt
    have hF1:=fun W=>Yi 1 W
    have hF2:=fun W=>Yi 2 W
    go_wp2
    refine ZT (fun W=>W.cell? ⟨t,2,none⟩=some (.pointer (some ⟨s,0,none⟩))) 13 [[0,1,2,3],[4],[5,6,7,8,9,10,11],[12]] gt ?_
    simp only[PI]
    iterate 4 (refine ZH ?_;simp only[Act.put,PU])
    refine XB (by rfl) (fun K hK=>?_)
    go_wp2_with (refine(hF1 _).mono ?_;clear hF1;rintro e w3 ⟨u,rfl,hu3,hk3⟩;obtain⟨U3,c3,rfl,_⟩:=QB hu3)
    have hA3:=hA.keep0 (hkd.trans0 hk3)
    have hWa:Calls Tryz.prog 12 #[.pointer (some ⟨s,0,none⟩),.int .i64 0,.slice U3 64 c3] w3 _:=hA3.write (by omega) 0 (by omega) 1 U3 c3 (Rd.of_own hu3) (fun x hx hm=>by have q1:=hA.st.lt _ hm;have q2:=(own_mem hu3 (g:=x.block) (by rw[hx];simp[Value.ownBlock])).1;have:wr.drew.heap.size=wr.heap.size:=rfl;omega)
    refine hK _ _ (hA3.cell) ?_
    clear hK K
    try simp only[Act.put,PU]
    refine XB (by rfl) (fun K hK=>?_)
    go_wp2_with (refine hWa.mono ?_;clear hWa;rintro e w4 ⟨rfl,F4,S4,a4,hA4,hq4⟩;have HQ4:=ZB hq4;clear hq4)
    refine hK _ _ (hA4.cell) ?_
    clear hK K
    try simp only[Act.put,PU]
    iterate 6 (refine ZH ?_;simp only[Act.put,PU])
    refine XB (by rfl) (fun K hK=>?_)
    go_wp2_with (refine(hF2 _).mono ?_;clear hF2;rintro e w5 ⟨u,rfl,hu5,hk5⟩;obtain⟨U5,c5,rfl,_⟩:=QB hu5)
    have hA5:=hA4.keep0 hk5
    have hWb:Calls Tryz.prog 12 #[.pointer (some ⟨s,0,none⟩),.int .i64 1,.slice U5 64 c5] w5 _:=hA5.write (by omega) 1 (by omega) 2 U5 c5 (Rd.of_own hu5) (fun x hx hm=>by have q1:=hA4.st.lt _ hm;have q2:=(own_mem hu5 (g:=x.block) (by rw[hx];simp[Value.ownBlock])).1;omega)
    refine hK _ _ (hA5.cell) ?_
    clear hK K
    try simp only[Act.put,PU]
    refine JB ?_
    go_wp2_with (first
     | (go_at_call 12
        refine hWb.mono ?_
        clear hWb
        rintro e w6 ⟨rfl,F6,S6,a6,hA6,hq6⟩
        have hMk:=hA6.mark (by omega) (hq6.2.2.2.trans ((QA HQ4).2.2.2.trans (QA hep)))
        have HQ6:=ZB hq6
        clear hq6
        have z6:=hA6.cell)
     | (go_at_call 14
        refine hMk.mono ?_
        clear hMk
        rintro e w7 ⟨rfl,F7,S7,hA7,hq7⟩
        have HQ7:=ZB hq7
        clear hq7
        have hSo:=hA7.sound
        have z7:=hA7.cell)
     | (go_at_call 15
        refine hSo.mono ?_
        clear hSo
        rintro e w8 ⟨rfl,hk8⟩
        have hA8:=hA7.keep0 hk8
        have z8:=hA8.cell
        have hRe:=hA8.allrefs
        obtain⟨hng,hn2⟩:=KAn hB2 hA.good.bl hA.good.ol (QA HQ4).1 (QA HQ6).1 (QA HQ4).2.1 (QA HQ6).2.1 (QA HQ4).2.2.1 (QA HQ6).2.2.1 (QA HQ7).1 (QA HQ7).2
        have HNG:=ZB hng
        clear hng HQ4 HQ6 HQ7
        obtain⟨rs,hrs⟩:∃ x,x=KE S7.I.bl S7.I.ol S7.I.bl.length:=⟨_,rfl⟩
        obtain⟨n,hn⟩:∃ x,x=rs.length:=⟨_,rfl⟩
        have hnl:=Xe S7.I.bl S7.I.ol S7.I.bl.length
        have hbl7:=hA8.good.bl
        have HBL7:=ZB hbl7
        have hn40:rs.length≤128:=by rw[hrs];omega
        rw[← hrs,← hn] at hn2 hRe
        rw[← hn] at hn40
        have HRS:=ZB hrs
        have HN:=ZB hn
        clear hnl hbl7 hrs hn)
     | (go_at_call 16
        refine hRe.mono ?_
        clear hRe
        rintro e w9 ⟨U9,rfl,hU9,hk9⟩
        obtain⟨gU,cU,rfl,_⟩:=QD hU9 (by omega)
        have hbw9:=hbw.keep0 (hA8.kept.trans0 hk9)
        have y0c:w9.cell? ⟨w.heap.size,0,none⟩=some (.int .i64 y0):=by simpa using hbw9.cell 0
        have y1c:w9.cell? ⟨w.heap.size,1,none⟩=some (.int .i64 y1):=by simpa using hbw9.cell 1
        clear hbw9))
    clear hA hA3 hA4 hA5 hA6 hkd hk3 hk5 g0 gt hu3 hu5 hbw hbc hep z6 z7
    obtain⟨i,hi,hin⟩:∃ i:Nat,y0 % (n:Nat)=(i:Int)∧i<n:=⟨(y0 % (n:Nat)).toNat,by have:=Int.emod_nonneg y0 (show (n:Int)≠0 by omega);omega,by have:=Int.emod_nonneg y0 (show (n:Int)≠0 by omega);have:=Int.emod_lt_of_pos y0 (show (0:Int)<n by omega);omega⟩
    obtain⟨j0,hj0,hjn0⟩:∃ i:Nat,y1 % ((n:Nat)-1)=(i:Int)∧i+1<n:=⟨(y1 % ((n:Nat)-1)).toNat,by have:=Int.emod_nonneg y1 (show (n:Int)-1≠0 by omega);omega,by have:=Int.emod_nonneg y1 (show (n:Int)-1≠0 by omega);have:=Int.emod_lt_of_pos y1 (show (0:Int)<n-1 by omega);omega⟩
    have hQ0:=fun W=>QP y0 (n:Nat) W (by omega) (by omega)
    have hQ1:=fun W=>QP y1 ((n:Nat)-1) W (by omega) (by omega)
    rw[hi] at hQ0
    rw[hj0] at hQ1
    clear hi hj0
    have hcase:(∃ j:Nat,(i:Int)≤(j0:Nat)∧((j0:Nat):Int)+1=(j:Nat)∧j<n∧i≠j)∨(¬ (i:Int)≤(j0:Nat)∧j0<n∧i≠j0):=by
     by_cases h:i≤j0
     · exact .inl ⟨j0+1,by omega,by omega,by omega,by omega⟩
     · exact .inr ⟨by omega,by omega,by omega⟩
    rcases hcase with⟨j,hc1,hc2,hjn,hij⟩ | ⟨hc1,hjn,hij⟩
    rotate_left
    · obtain⟨j,rfl⟩:∃ j:Nat,j=j0:=⟨_,rfl⟩
      go_wp2_with (first
       | (refine(hQ0 _).mono ?_;clear hQ0;rintro e w' ⟨rfl,rfl⟩)
       | (refine(hQ1 _).mono ?_;clear hQ1;rintro e w' ⟨rfl,rfl⟩))
      clear hc1 hjn0
      obtain⟨⟨a,za⟩,hra⟩:∃ q,rs[i]? = some q:=⟨rs[i]'(by rw[← QA HN];exact hin),List.getElem?_eq_getElem _⟩
      obtain⟨⟨b,zb⟩,hrb⟩:∃ q,rs[j]? = some q:=⟨rs[j]'(by rw[← QA HN];exact hjn),List.getElem?_eq_getElem _⟩
      have hra':=hra
      have hrb':=hrb
      rw[QA HRS] at hra' hrb'
      obtain⟨hab,hbB,hbl,hz0⟩:=ZAI (QA HNG) hra' hrb' hij
      rw[QA HBL7] at hbB
      obtain⟨hx1,hx2⟩:=hA8.refs (a,za) ⟨hz0,.inl hbl⟩
      simp only at hx1 hx2
      obtain⟨xa,rfl⟩:∃ q:Nat,za=(q:Nat):=⟨za.toNat,by omega⟩
      rw[Int.toNat_natCast] at hx1 hx2
      have r0:w9.cell? ⟨gU,i*2,none⟩=some (.int .i64 (a:Nat)):=XE (k:=i*2+0) hU9 (Xh 0 hra rfl)
      have r1:w9.cell? ⟨gU,i*2+1,none⟩=some (.int .i64 (xa:Nat)):=XE hU9 (Xh 1 hra rfl)
      have r2:w9.cell? ⟨gU,j*2,none⟩=some (.int .i64 (b:Nat)):=XE (k:=j*2+0) hU9 (Xh 0 hrb rfl)
      clear hra hrb hra' hrb'
      have hkd9:Keep [] w9 w9.drew:=(Keep.refl _ _).drew
      have hA9:=(hA8.keep0 hk9).keep0 hkd9
      obtain⟨g,tt,p,m,Fd,Ft,Fw,Fm,L0,L1,hS9,hFe⟩:=hA9.st
      subst hFe
      refine ZT (fun W=>W.cell? ⟨t,2,none⟩=some (.pointer (some ⟨s,0,none⟩))∧W.cell? ⟨gU,i*2,none⟩=some (.int .i64 (a:Nat))∧W.cell? ⟨gU,i*2+1,none⟩=some (.int .i64 (xa:Nat))∧W.cell? ⟨gU,j*2,none⟩=some (.int .i64 (b:Nat))) 20 [[0,1,2,3,5,6,7,8,9,10,11,12,13,14],[4],[15,16,17,18,19]] ⟨hA9.cell,r0,r1,r2⟩ ?_
      simp only[PI]
      iterate 14 (refine ZH ?_;simp only[Act.put,PU])
      refine XB (by rfl) (fun K hK=>?_)
      go_wp2_with (refine(ImageS_is _ _ s d g tt p m Fd Ft Fw Fm L0 L1 B S7 hS9).mono ?_;rintro e w' ⟨rfl,rfl⟩)
      refine hK _ _ (⟨hA9.cell,r0,r1,r2⟩) ?_
      clear hK K
      try simp only[Act.put,PU]
      refine XB (by rfl) (fun K hK=>?_)
      have hpg:pgs B≤5:=by have:=(KC (B:=B) (by omega) (by omega)).2;omega
      have hPu:=VAX w9.drew _ m Fm S7.I hS9.img b xa (by rw[hS9.blen];exact hbB) ⟨by omega,by omega⟩
      generalize YF (S7.I.bl.getD b 0) (xa:Nat)=gn at hPu
      go_wp2_with (refine hPu.mono ?_;clear hPu;rintro e w10 ⟨rfl,hi10,hk10⟩)
      have hS10:=hS9.setImg hi10 (by simp) hk10
      obtain⟨q,M,xs,hq1,hM,hxs,hxs3,hLk,hSf⟩:=Jm hA9 hS10 rfl rfl (QA HNG) hbB hab hbl (by omega)
      have HX3:=ZB hxs3
      clear hxs3
      have hyd:∃ a b c,Blk w10 t 37 #[a,b,.pointer (some ⟨s,0,none⟩),c]:=by
       obtain⟨a,b,c,hb⟩:=hA9.yard
       exact⟨a,b,c,hb.keep hk10 (fun hm=>hA9.nt (by simp[XO,hm]))⟩
      obtain⟨e1,e2,e3,hyd⟩:=hyd
      have z10:w10.cell? ⟨t,2,none⟩=some (.pointer (some ⟨s,0,none⟩)):=by simpa using hyd.cell 2
      have hkw10:Keep [] wA w10:=hA9.keepF (hk10.sub (fun x hx=>by simp[XO,hx]))
      have hgU:=own_mem hU9 (g:=gU) (by simp[Value.ownBlock])
      have hgM:gU∉Fm:=fun hm=>by have q1:=hA8.st.lt gU (by simp[XO,hm]);omega
      have hgc:∀ o,w10.cell? ⟨gU,o,none⟩=w9.cell? ⟨gU,o,none⟩:=fun o=>hk10.cell hgU.2 hgM o
      have t0:=(hgc _).trans r0
      have t1:=(hgc _).trans r1
      have t2:=(hgc _).trans r2
      refine hK _ _ (⟨z10,t0,t1,t2⟩) ?_
      clear hK K
      try simp only[Act.put,PU]
      iterate 4 (refine ZH ?_;simp only[Act.put,PU])
      refine JB ?_
      have hg10:gU<w10.heap.size:=by have:=hk10.size;have:w9.drew.heap.size=w9.heap.size:=rfl;omega
      have hLk10:=hLk w10 (Keep.refl _ _)
      clear hLk hgc r0 r1 r2 hkd9 hU9 hi10 hk10
      go_wp2_with (refine hLk10.mono ?_;clear hLk10;rintro e w11 ⟨U11,rfl,hU11,hk11⟩;obtain⟨gF,cF,rfl,_⟩:=QD hU11 (by omega))
      have hS11:=hS10.keep0 (hk11.trans0 (Keep.refl [] w11).drew)
      have hkc11:∀ {X:World} {gg o:Nat} {v:Value},w10.cell? ⟨gg,o,none⟩=some v→gg<w10.heap.size→Keep [] w10 X→X.cell? ⟨gg,o,none⟩=some v:=fun h1 h2 h3=>(h3.cell h2 (by simp) _).trans h1
      have z11:w11.cell? ⟨t,2,none⟩=some (.pointer (some ⟨s,0,none⟩)):=hkc11 z10 hyd.lt hk11
      have u11:w11.cell? ⟨gU,i*2+1,none⟩=some (.int .i64 (xa:Nat)):=hkc11 t1 hg10 hk11
      refine ZT (fun W=>W.cell? ⟨t,2,none⟩=some (.pointer (some ⟨s,0,none⟩))∧W.cell? ⟨gU,i*2+1,none⟩=some (.int .i64 (xa:Nat))) 17 [[0,1,2,3,5,6,7,8,9],[4],[10,11,12,13,14,15,16]] ⟨z11,u11⟩ ?_
      simp only[PI]
      iterate 9 (refine ZH ?_;simp only[Act.put,PU])
      refine XB (by rfl) (fun K hK=>?_)
      go_wp2_with (refine(GeomS_is _ _ s d g tt p m Fd Ft Fw Fm L0 L1 B _ hS11).mono ?_;rintro e w' ⟨rfl,rfl⟩)
      refine hK _ _ (⟨z11,u11⟩) ?_
      clear hK K
      try simp only[Act.put,PU]
      refine XB (by rfl) (fun K hK=>?_)
      have hWh:=ZY _ g B hS11.log.geom xa hx1 hx2
      obtain⟨sg,hsg⟩:∃ v,v=(xa-(6+4*pgs B)) / 24:=⟨_,rfl⟩
      rw[← hsg] at hWh hxs
      generalize (xa-(6+4*pgs B)) % 24=og at hWh
      clear hsg
      go_wp2_with (refine hWh.mono ?_;clear hWh;rintro e w12 ⟨rfl,hk12⟩)
      have hk12':Keep [] w11 w12:=((Keep.refl [] w11).drew).trans0 hk12
      have hk10':=hk11.trans0 hk12'
      refine hK _ _ (⟨hkc11 z10 hyd.lt hk10',hkc11 t1 hg10 hk10'⟩) ?_
      clear hK K
      try simp only[Act.put,PU]
      iterate 6 (refine ZH ?_;simp only[Act.put,PU])
      refine JB ?_
      have hU12:=ZA hU11 hk12'
      have v0:=XE hU12 (QA hxs).1
      have v1:=XE hU12 (QA hxs).2.1
      have v2:=XE hU12 (QA hxs).2.2
      have hk12d:Keep [] w12 w12.drew:=(Keep.refl _ _).drew
      have hSf12:=hSf w12.drew (hk10'.trans0 hk12d)
      clear hSf
      have z12:w12.cell? ⟨t,2,none⟩=some (.pointer (some ⟨s,0,none⟩)):=hkc11 z10 hyd.lt hk10'
      have p0:w12.cell? ⟨gU,i*2,none⟩=some (.int .i64 (a:Nat)):=hkc11 t0 hg10 hk10'
      have p2:w12.cell? ⟨gU,j*2,none⟩=some (.int .i64 (b:Nat)):=hkc11 t2 hg10 hk10'
      clear hkc11
      have hq0:0<q:=by omega
      by_cases h2q:2≤q
      · obtain⟨fc,hfc,hx3⟩:=(QA HX3) h2q
        have v3:=XE hU12 hx3
        have hq2:¬ ((q:Nat):Int)<2:=by omega
        have hfc1:(1:Int)<(fc:Nat):=by omega
        clear hx3
        go_wp2
        refine ZT (fun W=>W.cell? ⟨gF,0,none⟩=some (.int .i64 1)∧W.cell? ⟨gF,1,none⟩=some (.int .i64 (sg:Nat))∧W.cell? ⟨gF,2,none⟩=some (.int .i64 (M:Nat))∧W.cell? ⟨gU,i*2,none⟩=some (.int .i64 (a:Nat))∧W.cell? ⟨gU,j*2,none⟩=some (.int .i64 (b:Nat))) 16 [[0,1,2,3,4,5,6,7,8,9,10,11,12,13,14,15]] ⟨v0,v1,v2,p0,p2⟩ ?_
        simp only[PI]
        iterate 16 (refine ZH ?_;simp only[Act.put,PU])
        refine JB ?_
        go_wp2_with (first
         | (go_at_call 15;refine hSf12.mono ?_;clear hSf12;rintro e w13 ⟨rfl,hk13⟩;(have z13:w13.cell? ⟨t,2,none⟩=some (.pointer (some ⟨s,0,none⟩)):=(((hyd.keep0 hk10').keep0 hk12d).keep0 hk13).cell 2))
         | (go_at_call 9;refine(hAw _).mono ?_;rintro e w14 ⟨rfl,hk14⟩))
        go_ret
        exact⟨rfl,((((hkA.trans0 hkw10).trans0 hk10').trans0 hk12d).trans0 hk13).trans0 hk14⟩
      · have hq2:((q:Nat):Int)<2:=by omega
        go_wp2
        refine ZT (fun W=>W.cell? ⟨gF,0,none⟩=some (.int .i64 1)∧W.cell? ⟨gF,1,none⟩=some (.int .i64 (sg:Nat))∧W.cell? ⟨gF,2,none⟩=some (.int .i64 (M:Nat))∧W.cell? ⟨gU,i*2,none⟩=some (.int .i64 (a:Nat))∧W.cell? ⟨gU,j*2,none⟩=some (.int .i64 (b:Nat))) 16 [[0,1,2,3,4,5,6,7,8,9,10,11,12,13,14,15]] ⟨v0,v1,v2,p0,p2⟩ ?_
        simp only[PI]
        iterate 16 (refine ZH ?_;simp only[Act.put,PU])
        refine JB ?_
        go_wp2_with (first
         | (go_at_call 15;refine hSf12.mono ?_;clear hSf12;rintro e w13 ⟨rfl,hk13⟩;(have z13:w13.cell? ⟨t,2,none⟩=some (.pointer (some ⟨s,0,none⟩)):=(((hyd.keep0 hk10').keep0 hk12d).keep0 hk13).cell 2))
         | (go_at_call 9;refine(hAw _).mono ?_;rintro e w14 ⟨rfl,hk14⟩))
        go_ret
        exact⟨rfl,((((hkA.trans0 hkw10).trans0 hk10').trans0 hk12d).trans0 hk13).trans0 hk14⟩
    · go_wp2_with (first
       | (refine(hQ0 _).mono ?_;clear hQ0;rintro e w' ⟨rfl,rfl⟩)
       | (refine(hQ1 _).mono ?_;clear hQ1;rintro e w' ⟨rfl,rfl⟩))
      clear hc1 hc2 hjn0
      obtain⟨⟨a,za⟩,hra⟩:∃ q,rs[i]? = some q:=⟨rs[i]'(by rw[← QA HN];exact hin),List.getElem?_eq_getElem _⟩
      obtain⟨⟨b,zb⟩,hrb⟩:∃ q,rs[j]? = some q:=⟨rs[j]'(by rw[← QA HN];exact hjn),List.getElem?_eq_getElem _⟩
      have hra':=hra
      have hrb':=hrb
      rw[QA HRS] at hra' hrb'
      obtain⟨hab,hbB,hbl,hz0⟩:=ZAI (QA HNG) hra' hrb' hij
      rw[QA HBL7] at hbB
      obtain⟨hx1,hx2⟩:=hA8.refs (a,za) ⟨hz0,.inl hbl⟩
      simp only at hx1 hx2
      obtain⟨xa,rfl⟩:∃ q:Nat,za=(q:Nat):=⟨za.toNat,by omega⟩
      rw[Int.toNat_natCast] at hx1 hx2
      have r0:w9.cell? ⟨gU,i*2,none⟩=some (.int .i64 (a:Nat)):=XE (k:=i*2+0) hU9 (Xh 0 hra rfl)
      have r1:w9.cell? ⟨gU,i*2+1,none⟩=some (.int .i64 (xa:Nat)):=XE hU9 (Xh 1 hra rfl)
      have r2:w9.cell? ⟨gU,j*2,none⟩=some (.int .i64 (b:Nat)):=XE (k:=j*2+0) hU9 (Xh 0 hrb rfl)
      clear hra hrb hra' hrb'
      have hkd9:Keep [] w9 w9.drew:=(Keep.refl _ _).drew
      have hA9:=(hA8.keep0 hk9).keep0 hkd9
      obtain⟨g,tt,p,m,Fd,Ft,Fw,Fm,L0,L1,hS9,hFe⟩:=hA9.st
      subst hFe
      refine ZT (fun W=>W.cell? ⟨t,2,none⟩=some (.pointer (some ⟨s,0,none⟩))∧W.cell? ⟨gU,i*2,none⟩=some (.int .i64 (a:Nat))∧W.cell? ⟨gU,i*2+1,none⟩=some (.int .i64 (xa:Nat))∧W.cell? ⟨gU,j*2,none⟩=some (.int .i64 (b:Nat))) 20 [[0,1,2,3,5,6,7,8,9,10,11,12,13,14],[4],[15,16,17,18,19]] ⟨hA9.cell,r0,r1,r2⟩ ?_
      simp only[PI]
      iterate 14 (refine ZH ?_;simp only[Act.put,PU])
      refine XB (by rfl) (fun K hK=>?_)
      go_wp2_with (refine(ImageS_is _ _ s d g tt p m Fd Ft Fw Fm L0 L1 B S7 hS9).mono ?_;rintro e w' ⟨rfl,rfl⟩)
      refine hK _ _ (⟨hA9.cell,r0,r1,r2⟩) ?_
      clear hK K
      try simp only[Act.put,PU]
      refine XB (by rfl) (fun K hK=>?_)
      have hpg:pgs B≤5:=by have:=(KC (B:=B) (by omega) (by omega)).2;omega
      have hPu:=VAX w9.drew _ m Fm S7.I hS9.img b xa (by rw[hS9.blen];exact hbB) ⟨by omega,by omega⟩
      generalize YF (S7.I.bl.getD b 0) (xa:Nat)=gn at hPu
      go_wp2_with (refine hPu.mono ?_;clear hPu;rintro e w10 ⟨rfl,hi10,hk10⟩)
      have hS10:=hS9.setImg hi10 (by simp) hk10
      obtain⟨q,M,xs,hq1,hM,hxs,hxs3,hLk,hSf⟩:=Jm hA9 hS10 rfl rfl (QA HNG) hbB hab hbl (by omega)
      have HX3:=ZB hxs3
      clear hxs3
      have hyd:∃ a b c,Blk w10 t 37 #[a,b,.pointer (some ⟨s,0,none⟩),c]:=by
       obtain⟨a,b,c,hb⟩:=hA9.yard
       exact⟨a,b,c,hb.keep hk10 (fun hm=>hA9.nt (by simp[XO,hm]))⟩
      obtain⟨e1,e2,e3,hyd⟩:=hyd
      have z10:w10.cell? ⟨t,2,none⟩=some (.pointer (some ⟨s,0,none⟩)):=by simpa using hyd.cell 2
      have hkw10:Keep [] wA w10:=hA9.keepF (hk10.sub (fun x hx=>by simp[XO,hx]))
      have hgU:=own_mem hU9 (g:=gU) (by simp[Value.ownBlock])
      have hgM:gU∉Fm:=fun hm=>by have q1:=hA8.st.lt gU (by simp[XO,hm]);omega
      have hgc:∀ o,w10.cell? ⟨gU,o,none⟩=w9.cell? ⟨gU,o,none⟩:=fun o=>hk10.cell hgU.2 hgM o
      have t0:=(hgc _).trans r0
      have t1:=(hgc _).trans r1
      have t2:=(hgc _).trans r2
      refine hK _ _ (⟨z10,t0,t1,t2⟩) ?_
      clear hK K
      try simp only[Act.put,PU]
      iterate 4 (refine ZH ?_;simp only[Act.put,PU])
      refine JB ?_
      have hg10:gU<w10.heap.size:=by have:=hk10.size;have:w9.drew.heap.size=w9.heap.size:=rfl;omega
      have hLk10:=hLk w10 (Keep.refl _ _)
      clear hLk hgc r0 r1 r2 hkd9 hU9 hi10 hk10
      go_wp2_with (refine hLk10.mono ?_;clear hLk10;rintro e w11 ⟨U11,rfl,hU11,hk11⟩;obtain⟨gF,cF,rfl,_⟩:=QD hU11 (by omega))
      have hS11:=hS10.keep0 (hk11.trans0 (Keep.refl [] w11).drew)
      have hkc11:∀ {X:World} {gg o:Nat} {v:Value},w10.cell? ⟨gg,o,none⟩=some v→gg<w10.heap.size→Keep [] w10 X→X.cell? ⟨gg,o,none⟩=some v:=fun h1 h2 h3=>(h3.cell h2 (by simp) _).trans h1
      have z11:w11.cell? ⟨t,2,none⟩=some (.pointer (some ⟨s,0,none⟩)):=hkc11 z10 hyd.lt hk11
      have u11:w11.cell? ⟨gU,i*2+1,none⟩=some (.int .i64 (xa:Nat)):=hkc11 t1 hg10 hk11
      refine ZT (fun W=>W.cell? ⟨t,2,none⟩=some (.pointer (some ⟨s,0,none⟩))∧W.cell? ⟨gU,i*2+1,none⟩=some (.int .i64 (xa:Nat))) 17 [[0,1,2,3,5,6,7,8,9],[4],[10,11,12,13,14,15,16]] ⟨z11,u11⟩ ?_
      simp only[PI]
      iterate 9 (refine ZH ?_;simp only[Act.put,PU])
      refine XB (by rfl) (fun K hK=>?_)
      go_wp2_with (refine(GeomS_is _ _ s d g tt p m Fd Ft Fw Fm L0 L1 B _ hS11).mono ?_;rintro e w' ⟨rfl,rfl⟩)
      refine hK _ _ (⟨z11,u11⟩) ?_
      clear hK K
      try simp only[Act.put,PU]
      refine XB (by rfl) (fun K hK=>?_)
      have hWh:=ZY _ g B hS11.log.geom xa hx1 hx2
      obtain⟨sg,hsg⟩:∃ v,v=(xa-(6+4*pgs B)) / 24:=⟨_,rfl⟩
      rw[← hsg] at hWh hxs
      generalize (xa-(6+4*pgs B)) % 24=og at hWh
      clear hsg
      go_wp2_with (refine hWh.mono ?_;clear hWh;rintro e w12 ⟨rfl,hk12⟩)
      have hk12':Keep [] w11 w12:=((Keep.refl [] w11).drew).trans0 hk12
      have hk10':=hk11.trans0 hk12'
      refine hK _ _ (⟨hkc11 z10 hyd.lt hk10',hkc11 t1 hg10 hk10'⟩) ?_
      clear hK K
      try simp only[Act.put,PU]
      iterate 6 (refine ZH ?_;simp only[Act.put,PU])
      refine JB ?_
      have hU12:=ZA hU11 hk12'
      have v0:=XE hU12 (QA hxs).1
      have v1:=XE hU12 (QA hxs).2.1
      have v2:=XE hU12 (QA hxs).2.2
      have hk12d:Keep [] w12 w12.drew:=(Keep.refl _ _).drew
      have hSf12:=hSf w12.drew (hk10'.trans0 hk12d)
      clear hSf
      have z12:w12.cell? ⟨t,2,none⟩=some (.pointer (some ⟨s,0,none⟩)):=hkc11 z10 hyd.lt hk10'
      have p0:w12.cell? ⟨gU,i*2,none⟩=some (.int .i64 (a:Nat)):=hkc11 t0 hg10 hk10'
      have p2:w12.cell? ⟨gU,j*2,none⟩=some (.int .i64 (b:Nat)):=hkc11 t2 hg10 hk10'
      clear hkc11
      have hq0:0<q:=by omega
      by_cases h2q:2≤q
      · obtain⟨fc,hfc,hx3⟩:=(QA HX3) h2q
        have v3:=XE hU12 hx3
        have hq2:¬ ((q:Nat):Int)<2:=by omega
        have hfc1:(1:Int)<(fc:Nat):=by omega
        clear hx3
        go_wp2
        refine ZT (fun W=>W.cell? ⟨gF,0,none⟩=some (.int .i64 1)∧W.cell? ⟨gF,1,none⟩=some (.int .i64 (sg:Nat))∧W.cell? ⟨gF,2,none⟩=some (.int .i64 (M:Nat))∧W.cell? ⟨gU,i*2,none⟩=some (.int .i64 (a:Nat))∧W.cell? ⟨gU,j*2,none⟩=some (.int .i64 (b:Nat))) 16 [[0,1,2,3,4,5,6,7,8,9,10,11,12,13,14,15]] ⟨v0,v1,v2,p0,p2⟩ ?_
        simp only[PI]
        iterate 16 (refine ZH ?_;simp only[Act.put,PU])
        refine JB ?_
        go_wp2_with (first
         | (go_at_call 15;refine hSf12.mono ?_;clear hSf12;rintro e w13 ⟨rfl,hk13⟩;(have z13:w13.cell? ⟨t,2,none⟩=some (.pointer (some ⟨s,0,none⟩)):=(((hyd.keep0 hk10').keep0 hk12d).keep0 hk13).cell 2))
         | (go_at_call 9;refine(hAw _).mono ?_;rintro e w14 ⟨rfl,hk14⟩))
        go_ret
        exact⟨rfl,((((hkA.trans0 hkw10).trans0 hk10').trans0 hk12d).trans0 hk13).trans0 hk14⟩
      · have hq2:((q:Nat):Int)<2:=by omega
        go_wp2
        refine ZT (fun W=>W.cell? ⟨gF,0,none⟩=some (.int .i64 1)∧W.cell? ⟨gF,1,none⟩=some (.int .i64 (sg:Nat))∧W.cell? ⟨gF,2,none⟩=some (.int .i64 (M:Nat))∧W.cell? ⟨gU,i*2,none⟩=some (.int .i64 (a:Nat))∧W.cell? ⟨gU,j*2,none⟩=some (.int .i64 (b:Nat))) 16 [[0,1,2,3,4,5,6,7,8,9,10,11,12,13,14,15]] ⟨v0,v1,v2,p0,p2⟩ ?_
        simp only[PI]
        iterate 16 (refine ZH ?_;simp only[Act.put,PU])
        refine JB ?_
        go_wp2_with (first
         | (go_at_call 15;refine hSf12.mono ?_;clear hSf12;rintro e w13 ⟨rfl,hk13⟩;(have z13:w13.cell? ⟨t,2,none⟩=some (.pointer (some ⟨s,0,none⟩)):=(((hyd.keep0 hk10').keep0 hk12d).keep0 hk13).cell 2))
         | (go_at_call 9;refine(hAw _).mono ?_;rintro e w14 ⟨rfl,hk14⟩))
        go_ret
        exact⟨rfl,((((hkA.trans0 hkw10).trans0 hk10').trans0 hk12d).trans0 hk13).trans0 hk14⟩
end
end Go.Proofs.YthgphmfipnjllaaGreat
