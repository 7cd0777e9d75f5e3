/- Lemmas of the proof, with their conditions. -/
import Derived.Test.YtkonbpfbjiepfaaGreatP42
namespace Go.Proofs.YtkonbpfbjiepfaaGreat
set_option linter.unusedSimpArgs false
set_option linter.unusedVariables false
set_option maxHeartbeats 8000000
set_option maxRecDepth 100000
section
open Go.RowKit Go.Shelf
structure FrSt (w0 w:World) (B f r s d x:Nat) (Fs Fx:List Nat) (R:RS):Prop where
 blk:Blk w f 218 #[.pointer (some ⟨r,0,none⟩)]
 rep:ReplicaIs w w0.heap.size r s d x Fs Fx B R
 fn:f∉JO r Fs Fx
 fb:w0.heap.size≤f
 kept:Keep [] w0 w
namespace FrSt
variable {w0 w w':World} {B f r s d x:Nat} {Fs Fx:List Nat} {R:RS}
theorem keep0 (h:FrSt w0 w B f r s d x Fs Fx R) (hk:Keep [] w w'):FrSt w0 w' B f r s d x Fs Fx R:=⟨h.blk.keep0 hk,h.rep.keep0 hk,h.fn,h.fb,h.kept.trans0 hk⟩
theorem lt (h:FrSt w0 w B f r s d x Fs Fx R):f<w.heap.size:=h.blk.lt
theorem turn (h:FrSt w0 w B f r s d x Fs Fx R) {Fs' Fx':List Nat} {R':RS} (hr:ReplicaIs w' w0.heap.size r s d x Fs' Fx' B R') (hk:Keep (JO r Fs Fx) w w') (hg:Grow w (JO r Fs Fx) (JO r Fs' Fx')):FrSt w0 w' B f r s d x Fs' Fx' R':=by
 have hlt:=h.lt;have hge:=h.rep.ge;exact⟨h.blk.keep hk h.fn,hr,fun hm=>(hg f hm).elim h.fn (by omega),h.fb,h.kept.trans hk (fun y hy=>.inr (hge y hy))⟩
end FrSt
theorem XAk (w:World) (f r:Nat) (h:Blk w f 218 #[.pointer (some ⟨r,0,none⟩)]):Calls Tryz.prog 82 #[.pointer (some ⟨f,0,none⟩)] w fun e w'=>e=.returned (.pointer (some ⟨r,0,none⟩))∧w=w':=by
 have c0:w.cell? ⟨f,0,none⟩=some (.pointer (some ⟨r,0,none⟩)):=by simpa using h.cell 0
 go_enter Tryz.func82,Tryz.ntmps82
 go_wp2
 go_ret;exact⟨rfl,rfl⟩
theorem ZAx (w:World):Calls Tryz.prog 82 #[.pointer none] w fun e w'=>e=.returned (.pointer none)∧w=w':=by
 go_enter Tryz.func82,Tryz.ntmps82
 go_wp2
 go_ret;exact⟨rfl,rfl⟩
theorem KT (w:World) (f r s x:Nat) (h:Blk w f 218 #[.pointer (some ⟨r,0,none⟩)]) (hr:Blk w r 224 #[.pointer (some ⟨s,0,none⟩),.pointer (some ⟨x,0,none⟩)]) :
 Calls Tryz.prog 79 #[.pointer (some ⟨f,0,none⟩)] w fun e w'=>e=.returned (.pointer (some ⟨s,0,none⟩))∧w=w':=by
 have hE:=XAk w f r h;have hS:=XAh w r s x hr
 go_enter Tryz.func79,Tryz.ntmps79
 go_wp2_with (first
  | (go_at_call 82;refine hE.mono ?_;clear hE;rintro e w' ⟨rfl,rfl⟩)
  | (go_at_call 139;refine hS.mono ?_;clear hS;rintro e w' ⟨rfl,rfl⟩))
 go_ret;exact⟨rfl,rfl⟩
theorem Km {w:World} {f r:Nat} {b:Value} {Q:Ending→World→Prop} (h:Blk w f 218 #[.pointer (some ⟨r,0,none⟩)])
 (hT:Calls Tryz.prog 83 #[.pointer (some ⟨r,0,none⟩),b] w fun e w'=>∃ u c,e=.returned (.tuple #[u,c])∧Q e w') :
 Calls Tryz.prog 25 #[.pointer (some ⟨f,0,none⟩),b] w Q:=by
 have hE:=XAk w f r h
 go_enter Tryz.func25,Tryz.ntmps25
 go_wp2_with (first
  | (go_at_call 82;refine hE.mono ?_;clear hE;rintro e w' ⟨rfl,rfl⟩)
  | (go_at_call 83;refine hT.mono ?_;clear hT;rintro e w' ⟨u,c,rfl,hq⟩))
 exact hq
theorem YY {w:World} {f r s x:Nat} {v:Int} {Q:Ending→World→Prop} (h:Blk w f 218 #[.pointer (some ⟨r,0,none⟩)]) (hr:Blk w r 224 #[.pointer (some ⟨s,0,none⟩),.pointer (some ⟨x,0,none⟩)])
 (hT:Calls Tryz.prog 86 #[.pointer (some ⟨s,0,none⟩),.int .i64 v,.int .i64 2] w fun e w'=>∃ c:Int,e=.returned (.int .i64 c)∧Q e w') :
 Calls Tryz.prog 28 #[.pointer (some ⟨f,0,none⟩),.int .i64 v] w Q:=by
 have hE:=KT w f r s x h hr
 go_enter Tryz.func28,Tryz.ntmps28
 go_wp2_with (first
  | (go_at_call 79;refine hE.mono ?_;clear hE;rintro e w' ⟨rfl,rfl⟩)
  | (go_at_call 86;refine hT.mono ?_;clear hT;rintro e w' ⟨c,rfl,hq⟩))
 exact hq
theorem Yi {w:World} {f r s x:Nat} {n0 n1 n2 n3 n4 n5 n6 n7 n8 n9:Int} (h:Blk w f 218 #[.pointer (some ⟨r,0,none⟩)]) (hr:Blk w r 224 #[.pointer (some ⟨s,0,none⟩),.pointer (some ⟨x,0,none⟩)])
 (hT:∀ W,Keep [] w W→Calls Tryz.prog 85 #[.pointer (some ⟨s,0,none⟩)] W fun e w'=>e=.returned (.agg #[.int .i64 n0,.int .i64 n1,.int .i64 n2,.int .i64 n3,.int .i64 n4,.int .i64 n5,.int .i64 n6,.int .i64 n7,.int .i64 n8,.int .i64 n9])∧Keep [] W w') :
 Calls Tryz.prog 27 #[.pointer (some ⟨f,0,none⟩)] w fun e w'=>e=.returned (.agg #[.int .i64 n0,.int .i64 n1,.int .i64 n2,.int .i64 n3,.int .i64 n4,.int .i64 n5,.int .i64 n6,.int .i64 n7,.int .i64 n8,.int .i64 n9])∧Keep [] w w':=by
 have hE:=fun W (hk:Keep [] w W)=>KT W f r s x (h.keep0 hk) (hr.keep0 hk);have hB:=Blk.new w 72 #[.int .i64 0,.int .i64 0,.int .i64 0,.int .i64 0,.int .i64 0,.int .i64 0,.int .i64 0,.int .i64 0,.int .i64 0,.int .i64 0];have hk0:Keep [] w (w.alloc (.cells #[.int .i64 0,.int .i64 0,.int .i64 0,.int .i64 0,.int .i64 0,.int .i64 0,.int .i64 0,.int .i64 0,.int .i64 0,.int .i64 0] 72)):=(Keep.refl _ _).alloc _
 go_enter Tryz.func27,Tryz.ntmps27
 go_wp2_with (first
  | (go_at_call 79;refine(hE _ hk0).mono ?_;clear hE;rintro e w' ⟨rfl,rfl⟩)
  | (go_at_call 85
     refine(hT _ hk0).mono ?_;clear hT;rintro e w1 ⟨rfl,hk1⟩;have hB1:=hB.keep0 hk1;have hlt:=hB1.lt;have c0:w1.cell? ⟨w.heap.size,0,none⟩=some (.int .i64 0):=by simpa using hB1.cell 0
     have c1:w1.cell? ⟨w.heap.size,1,none⟩=some (.int .i64 0):=by simpa using hB1.cell 1
     have c2:w1.cell? ⟨w.heap.size,2,none⟩=some (.int .i64 0):=by simpa using hB1.cell 2
     have c3:w1.cell? ⟨w.heap.size,3,none⟩=some (.int .i64 0):=by simpa using hB1.cell 3
     have c4:w1.cell? ⟨w.heap.size,4,none⟩=some (.int .i64 0):=by simpa using hB1.cell 4
     have c5:w1.cell? ⟨w.heap.size,5,none⟩=some (.int .i64 0):=by simpa using hB1.cell 5
     have c6:w1.cell? ⟨w.heap.size,6,none⟩=some (.int .i64 0):=by simpa using hB1.cell 6
     have c7:w1.cell? ⟨w.heap.size,7,none⟩=some (.int .i64 0):=by simpa using hB1.cell 7
     have c8:w1.cell? ⟨w.heap.size,8,none⟩=some (.int .i64 0):=by simpa using hB1.cell 8
     have c9:w1.cell? ⟨w.heap.size,9,none⟩=some (.int .i64 0):=by simpa using hB1.cell 9
     have f0:=hB1.frozen 0;have f1:=hB1.frozen 1;have f2:=hB1.frozen 2;have f3:=hB1.frozen 3;have f4:=hB1.frozen 4;have f5:=hB1.frozen 5;have f6:=hB1.frozen 6;have f7:=hB1.frozen 7;have f8:=hB1.frozen 8;have f9:=hB1.frozen 9))
 have hz:=((((((((((hB1.set 0 (.int .i64 n0)).set 1 (.int .i64 n1)).set 2 (.int .i64 n2)).set 3 (.int .i64 n3)).set 4 (.int .i64 n4)).set 5 (.int .i64 n5)).set 6 (.int .i64 n6)).set 7 (.int .i64 n7)).set 8 (.int .i64 n8)).set 9 (.int .i64 n9));have hkz:=(((((((((((Keep.refl [w.heap.size] w1).setCell (p:=⟨w.heap.size,0,none⟩) (.inl (by simp)) (.int .i64 n0)).setCell (p:=⟨w.heap.size,1,none⟩) (.inl (by simp)) (.int .i64 n1)).setCell (p:=⟨w.heap.size,2,none⟩) (.inl (by simp)) (.int .i64 n2)).setCell (p:=⟨w.heap.size,3,none⟩) (.inl (by simp)) (.int .i64 n3)).setCell (p:=⟨w.heap.size,4,none⟩) (.inl (by simp)) (.int .i64 n4)).setCell (p:=⟨w.heap.size,5,none⟩) (.inl (by simp)) (.int .i64 n5)).setCell (p:=⟨w.heap.size,6,none⟩) (.inl (by simp)) (.int .i64 n6)).setCell (p:=⟨w.heap.size,7,none⟩) (.inl (by simp)) (.int .i64 n7)).setCell (p:=⟨w.heap.size,8,none⟩) (.inl (by simp)) (.int .i64 n8)).setCell (p:=⟨w.heap.size,9,none⟩) (.inl (by simp)) (.int .i64 n9));simp only[List.setIfInBounds_toArray,List.set_cons_zero,List.set_cons_succ] at hz;have y0:=hz.cell 0;have y1:=hz.cell 1;have y2:=hz.cell 2;have y3:=hz.cell 3;have y4:=hz.cell 4;have y5:=hz.cell 5;have y6:=hz.cell 6;have y7:=hz.cell 7;have y8:=hz.cell 8;have y9:=hz.cell 9;simp at y0 y1 y2 y3 y4 y5 y6 y7 y8 y9;refine bodyPost_ret (v:=.agg #[.int .i64 n0,.int .i64 n1,.int .i64 n2,.int .i64 n3,.int .i64 n4,.int .i64 n5,.int .i64 n6,.int .i64 n7,.int .i64 n8,.int .i64 n9]) (by simp[results,Tryz.results27,go_sem,y0,y1,y2,y3,y4,y5,y6,y7,y8,y9]) rfl ⟨rfl,(hk0.trans0 hk1).trans hkz (fun y hy=>.inr (by simp at hy;omega))⟩
end
section
open Go.RowKit
def ZN (B:Nat) (z:Int×Int×Int) (ep:Nat):POp×Nat:=
 if z.1=0 then (⟨3,0,0,((ep:Nat):Int)+1,[]⟩,ep+1) else if z.1=1 then (⟨2,z.2.1 % (B:Nat),1+z.2.2 % ((B:Nat)-z.2.1 % (B:Nat)),0,[]⟩,ep) else (⟨1,z.2.1 % (B:Nat),0,0,YS z.2.2⟩,ep)
def QM (B:Nat) (zs:List (Int×Int×Int)):Nat→List POp×Nat
 | 0=>([],0)
 | n+1=>((QM B zs n).1++[(ZN B (zs.getD n (0,0,0)) (QM B zs n).2).1],(ZN B (zs.getD n (0,0,0)) (QM B zs n).2).2)
theorem YAA (B:Nat) (zs:List (Int×Int×Int)) (n:Nat):(QM B zs n).1.length=n:=by
 induction n with
 | zero=>rfl
 | succ n ih=>simp[QM,ih]
theorem Zk (B:Nat) (zs:List (Int×Int×Int)) (n:Nat):(QM B zs n).2≤n:=by
 induction n with
 | zero=>simp[QM]
 | succ n ih=>
   simp only[QM,ZN]
   split
   · simp;exact ih
   · split <;> simp <;> omega
theorem YAU (B:Nat) (zs:List (Int×Int×Int)) (n i:Nat) (h:i<n):(QM B zs n).1[i]? = some (ZN B (zs.getD i (0,0,0)) (QM B zs i).2).1:=by
 induction n with
 | zero=>omega
 | succ n ih=>
   have hl:=YAA B zs n;simp only[QM];rcases Nat.lt_or_ge i n with hlt | hge
   · rw[List.getElem?_append_left (by omega),ih hlt]
   · obtain rfl:i=n:=by omega
     rw[List.getElem?_append_right (by omega),hl];simp
theorem Xo (B:Nat) (zs:List (Int×Int×Int)) (i:Nat):(QM B zs (i+1)).2=(ZN B (zs.getD i (0,0,0)) (QM B zs i).2).2:=rfl
theorem Vf (B:Nat) (z:Int×Int×Int) (ep:Nat):((ZN B z ep).1.k=3∧(ZN B z ep).1.e=((ep:Nat):Int)+1∧(ZN B z ep).2=ep+1)∨((ZN B z ep).1.k≠3∧(ZN B z ep).2=ep):=by
 unfold ZN
 split
 · exact .inl ⟨rfl,rfl,rfl⟩
 · split
   · exact .inr ⟨by simp,rfl⟩
   · exact .inr ⟨by simp,rfl⟩
theorem Kj (B:Nat) (hB:1≤B∧B≤64) (z:Int×Int×Int) (ep:Nat) (he:ep≤1000000):Xe B (ZN B z ep).1∧∃ k b c e:Nat,∃ xs,(ZN B z ep).1=⟨k,b,c,e,xs⟩∧OpMay k b c e xs.length∧(b+max c 1≤B∨k=3):=by
 have h1:=Int.emod_nonneg z.2.1 (show ((B:Nat):Int)≠0 by omega);have h2:=Int.emod_lt_of_pos z.2.1 (show (0:Int)<((B:Nat):Int) by omega);have h3:=Int.emod_nonneg z.2.2 (show ((B:Nat):Int)-z.2.1 % (B:Nat)≠0 by omega);have h4:=Int.emod_lt_of_pos z.2.2 (show (0:Int)<((B:Nat):Int)-z.2.1 % (B:Nat) by omega);unfold ZN
 split
 · refine⟨.inr (.inr ⟨rfl,?_,?_⟩),3,0,0,ep+1,[],by simp,.inr (.inr ⟨rfl,rfl,rfl,by omega,by omega,rfl⟩),.inr rfl⟩
   · dsimp only;omega
   · dsimp only;omega
 · split
   · refine⟨.inr (.inl ⟨rfl,?_,?_,?_⟩),2,(z.2.1 % (B:Nat)).toNat,(1+z.2.2 % ((B:Nat)-z.2.1 % (B:Nat))).toNat,0,[],?_,.inr (.inl ⟨rfl,by omega,by omega,by omega,rfl,rfl⟩),.inl (by omega)⟩
     · exact h1
     · dsimp only;omega
     · dsimp only;omega
     · simp only[POp.mk.injEq,and_true];refine⟨rfl,?_,?_,rfl⟩ <;> omega
   · refine⟨.inl ⟨rfl,h1,h2,by simp⟩,1,(z.2.1 % (B:Nat)).toNat,0,0,YS z.2.2,?_,.inl ⟨rfl,by omega,rfl,rfl,by simp⟩,.inl (by omega)⟩
     simp only[POp.mk.injEq,and_true];refine⟨rfl,?_,rfl,rfl⟩;omega
def PartsAt (w:World) (A:Option Addr) (len:Nat) (zs:List (Int×Int×Int)):Prop:=
 zs.length=len∧(0<len→∃ ab ao,A=some ⟨ab,ao,none⟩∧ab<w.heap.size∧∀ i z,zs[i]? = some z→w.cell? ⟨ab,ao+i*3,none⟩=some (.int .i64 z.1)∧w.cell? ⟨ab,ao+i*3+1,none⟩=some (.int .i64 z.2.1) ∧
  w.cell? ⟨ab,ao+i*3+2,none⟩=some (.int .i64 z.2.2))
theorem PartsAt.keep0 {w w':World} {A:Option Addr} {len:Nat} {zs:List (Int×Int×Int)} (h:PartsAt w A len zs) (hk:Keep [] w w'):PartsAt w' A len zs:=
 ⟨h.1,fun h0=>by
   obtain⟨ab,ao,e,hb,hc⟩:=h.2 h0
   exact⟨ab,ao,e,hk.lt hb,fun i z hz=>by
    obtain⟨a,b,c⟩:=hc i z hz;exact⟨(hk.cell hb (by simp) _).trans a,(hk.cell hb (by simp) _).trans b,(hk.cell hb (by simp) _).trans c⟩⟩⟩
theorem JBC (w0:World) (B:Nat) (hB:1≤B∧B≤64) (A:Option Addr) (len cap:Nat) (zs:List (Int×Int×Int)) (hz:PartsAt w0 A len zs) (hlen:len≤60) :
 Calls Tryz.prog 23 #[.int .i64 (B:Nat),.slice A len cap] w0 fun e w'=>∃ OA oc oz,e=.returned (.slice OA len oc)∧oz.map (·.2)=(QM B zs len).1∧OHold w' w0.heap.size [] (.slice OA len oc) oz∧Keep [] w0 w':=by
 have hzl:zs.length=len:=hz.1;have HZL:=JB hzl;clear hzl
 go_enter Tryz.func23,Tryz.ntmps23
 go_wp2
 go_loopw [5,6,7] (fun v ep i wr=>∃ j oz,j≤len∧i=.int .i64 (j:Nat)∧ep=.int .i64 ((QM B zs j).2:Nat)∧Hid (oz.map (·.2)=(QM B zs j).1)∧Hid (oz.length=j)∧OHold wr w0.heap.size [] v oz∧Keep [] w0 wr) (fun _ _ i _=>len-(intOf i).toNat)
 case atStart=>exact⟨0,[],Nat.zero_le _,rfl,rfl,rfl,rfl,OHold.nil _ _ _,Keep.refl _ _⟩
 case round=>
  obtain⟨j,oz,hj,rfl,rfl,hoz,hol,hO,hkw⟩:=hrel;obtain⟨VA,vc,hvv,_⟩:=ZB hO.row;rw[XA hol] at hvv;subst hvv
  by_cases hlt:j<len
  · obtain⟨b,o,hA',hb,hc⟩:=hz.2 (by omega)
    subst hA';have hjl:j<zs.length:=by rw[XA HZL];exact hlt
    obtain⟨c0,c1,c2⟩:=hc j zs[j] (List.getElem?_eq_getElem hjl);replace c0:=(hkw.cell (b:=b) hb (by simp) _).trans c0;replace c1:=(hkw.cell (b:=b) hb (by simp) _).trans c1;replace c2:=(hkw.cell (b:=b) hb (by simp) _).trans c2;have hgd:zs.getD j (0,0,0)=zs[j]:=by rw[List.getD_eq_getElem?_getD,List.getElem?_eq_getElem hjl];rfl
    have hepj:=Zk B zs j;have hbw:=hkw.lt hb;clear hc;generalize zs[j]=z at *;obtain⟨zk,zb,zn⟩:=z;simp only at c0 c1 c2;obtain⟨bb,hbb,hbbB⟩:∃ bb:Nat,zb % (B:Nat)=(bb:Int)∧bb<B:=⟨(zb % (B:Nat)).toNat,by have:=Int.emod_nonneg zb (show ((B:Nat):Int)≠0 by omega);omega,by have:=Int.emod_nonneg zb (show ((B:Nat):Int)≠0 by omega);have:=Int.emod_lt_of_pos zb (show (0:Int)<((B:Nat):Int) by omega);omega⟩
    have HR:∀ W:World,Calls Tryz.prog 8 #[.int .i64 zb,.int .i64 (B:Nat)] W fun e w'=>e=.returned (.int .i64 (bb:Nat))∧W=w':=fun W=>by
     rw[← hbb];exact JW _ _ _ (by omega) (by omega)
    obtain⟨nn,hnn,hnn2⟩:∃ nn:Nat,zn % ((B:Nat)-(bb:Nat))=(nn:Int)∧nn<B:=⟨(zn % ((B:Nat)-(bb:Nat))).toNat,by have:=Int.emod_nonneg zn (show ((B:Nat):Int)-(bb:Nat)≠0 by omega);omega,by have:=Int.emod_nonneg zn (show ((B:Nat):Int)-(bb:Nat)≠0 by omega);have:=Int.emod_lt_of_pos zn (show (0:Int)<((B:Nat):Int)-(bb:Nat) by omega);omega⟩
    have HRn:∀ W:World,Calls Tryz.prog 8 #[.int .i64 zn,.int .i64 ((B:Nat)-(bb:Nat))] W fun e w'=>e=.returned (.int .i64 (nn:Nat))∧W=w':=fun W=>by
     rw[← hnn];exact JW _ _ _ (by omega) (by omega)
    have hF:=Yn zn wr;have HBB:=JB hbb;have HNN:=JB hnn;have HGD:=JB hgd;have hv0:=hO.row;clear hbb hnn hgd
    by_cases hq0:zk=0
    · subst hq0
      have hkA:Keep [] wr (wr.alloc (.cells #[.int .i64 3,.int .i64 0,.int .i64 0,.int .i64 (((QM B zs j).2:Nat)+1),.slice none 0 0] 137)):=(Keep.refl _ _).alloc _
      have hrdB:Rd (wr.alloc (.cells #[.int .i64 3,.int .i64 0,.int .i64 0,.int .i64 (((QM B zs j).2:Nat)+1),.slice none 0 0] 137)) (some ⟨wr.heap.size,0,none⟩) (1*5) (opc ((.slice none 0 0),⟨3,0,0,((QM B zs j).2:Nat)+1,[]⟩)):=by
       have:=Rd.of_blk (n:=5) (Blk.new wr 137 #[.int .i64 3,.int .i64 0,.int .i64 0,.int .i64 (((QM B zs j).2:Nat)+1),.slice none 0 0]) (by simp);simpa [opc] using this
      go_wp2_with (first
       | (refine(HR _).mono ?_;clear HR;rintro r w' ⟨rfl,rfl⟩)
       | (at_builtin;refine elemOps.wp_app rfl _ _ rfl w0.heap.size _ oz.length (oz.flatMap opc) rfl (XD hv0 _) ⟨wr.heap.size,0,none⟩ 1 1 (opc ((.slice none 0 0),⟨3,0,0,((QM B zs j).2:Nat)+1,[]⟩)) rfl hrdB (XAO _ rfl) (by have:=XA hol;omega) (by have:=XA hol;omega) (by have:=hkw.size;simp;omega) ?_))
      intro v' w6 hv' hk6 _ _;obtain⟨VA',vc',hvv',_⟩:=ZB hv';subst hvv';have hO6:=(hO.keep0 hkA).snoc ((.slice none 0 0:Value),(⟨3,0,0,((QM B zs j).2:Nat)+1,[]⟩:POp)) (World.ownsRow_nil _ _ _ _) (by simp) hv' hk6;have hkw6:Keep [] w0 w6:=(hkw.trans0 hkA).trans hk6 (fun x hx=>.inr (own_mem (hO.keep0 hkA).row (by simpa using hx)).1)
      go_wp2
      go_round
      case rel=>
       have hs1:(QM B zs (j+1)).1=(QM B zs j).1++[(⟨3,0,0,((QM B zs j).2:Nat)+1,[]⟩:POp)]:=by simp only[QM,XA HGD,ZN];rfl
       have hs2:(QM B zs (j+1)).2=(QM B zs j).2+1:=by simp only[QM,XA HGD,ZN];rfl
       refine⟨j+1,oz++[((.slice none 0 0:Value),(⟨3,0,0,((QM B zs j).2:Nat)+1,[]⟩:POp))],by omega,by go_num,by rw[hs2];go_num,?_,?_,hO6,hkw6⟩
       · show _=_;rw[List.map_append,XA hoz,hs1];rfl
       · show _=_;rw[List.length_append,XA hol];rfl
      case measure=>simp[intOf];omega
    · by_cases hq1:zk=1
      · subst hq1
        have hkA:Keep [] wr (wr.alloc (.cells #[.int .i64 2,.int .i64 bb,.int .i64 (1+(nn:Nat)),.int .i64 0,.slice none 0 0] 137)):=(Keep.refl _ _).alloc _
        have hrdB:Rd (wr.alloc (.cells #[.int .i64 2,.int .i64 bb,.int .i64 (1+(nn:Nat)),.int .i64 0,.slice none 0 0] 137)) (some ⟨wr.heap.size,0,none⟩) (1*5) (opc ((.slice none 0 0),⟨2,(bb:Nat),1+(nn:Nat),0,[]⟩)):=by
         have:=Rd.of_blk (n:=5) (Blk.new wr 137 #[.int .i64 2,.int .i64 bb,.int .i64 (1+(nn:Nat)),.int .i64 0,.slice none 0 0]) (by simp);simpa [opc] using this
        go_wp2_with (first
         | (go_at_call 8;first | (refine(HR _).mono ?_;clear HR;rintro r w' ⟨rfl,rfl⟩) | (refine(HRn _).mono ?_;clear HRn;rintro r w' ⟨rfl,rfl⟩))
         | (at_builtin;refine elemOps.wp_app rfl _ _ rfl w0.heap.size _ oz.length (oz.flatMap opc) rfl (XD hv0 _) ⟨wr.heap.size,0,none⟩ 1 1 (opc ((.slice none 0 0),⟨2,(bb:Nat),1+(nn:Nat),0,[]⟩)) rfl hrdB (XAO _ rfl) (by have:=XA hol;omega) (by have:=XA hol;omega) (by have:=hkw.size;simp;omega) ?_))
        intro v' w6 hv' hk6 _ _;obtain⟨VA',vc',hvv',_⟩:=ZB hv';subst hvv';have hO6:=(hO.keep0 hkA).snoc ((.slice none 0 0:Value),(⟨2,(bb:Nat),1+(nn:Nat),0,[]⟩:POp)) (World.ownsRow_nil _ _ _ _) (by simp) hv' hk6;have hkw6:Keep [] w0 w6:=(hkw.trans0 hkA).trans hk6 (fun x hx=>.inr (own_mem (hO.keep0 hkA).row (by simpa using hx)).1)
        go_wp2
        go_round
        case rel=>
         have hs1:(QM B zs (j+1)).1=(QM B zs j).1++[(⟨2,(bb:Nat),1+(nn:Nat),0,[]⟩:POp)]:=by simp only[QM,XA HGD,ZN];try simp[XA HBB,XA HNN]
         have hs2:(QM B zs (j+1)).2=(QM B zs j).2:=by simp only[QM,XA HGD,ZN];try simp[XA HBB,XA HNN]
         refine⟨j+1,oz++[((.slice none 0 0:Value),(⟨2,(bb:Nat),1+(nn:Nat),0,[]⟩:POp))],by omega,by go_num,by rw[hs2],?_,?_,hO6,hkw6⟩
         · show _=_;rw[List.map_append,XA hoz,hs1];rfl
         · show _=_;rw[List.length_append,XA hol];rfl
        case measure=>simp[intOf];omega
      · go_wp2_with (first
         | (go_at_call 8;refine(HR _).mono ?_;clear HR;rintro r w' ⟨rfl,rfl⟩)
         | (go_at_call 11
            refine hF.mono ?_;clear hF;rintro r w2 ⟨u,rfl,hu,hk2⟩;obtain⟨UA,uc,rfl,_⟩:=ZB hu;have hkA:=hk2.alloc (.cells #[.int .i64 1,.int .i64 bb,.int .i64 0,.int .i64 0,.slice UA 64 uc] 137)
            have hrdB:Rd (w2.alloc (.cells #[.int .i64 1,.int .i64 bb,.int .i64 0,.int .i64 0,.slice UA 64 uc] 137)) (some ⟨w2.heap.size,0,none⟩) (1*5) (opc ((.slice UA 64 uc),⟨1,(bb:Nat),0,0,YS zn⟩)):=by
             have:=Rd.of_blk (n:=5) (Blk.new w2 137 #[.int .i64 1,.int .i64 bb,.int .i64 0,.int .i64 0,.slice UA 64 uc]) (by simp)
             simpa [opc] using this)
         | (at_builtin;refine elemOps.wp_app rfl _ _ rfl w0.heap.size _ oz.length (oz.flatMap opc) rfl (XD (KA hv0 hk2) _) ⟨w2.heap.size,0,none⟩ 1 1 (opc ((.slice UA 64 uc),⟨1,(bb:Nat),0,0,YS zn⟩)) rfl hrdB (XAO _ rfl) (by have:=XA hol;omega) (by have:=XA hol;omega) (by have:=hkw.size;have:=hk2.size;simp;omega) ?_))
        intro v' w6 hv' hk6 _ _;obtain⟨VA',vc',hvv',_⟩:=ZB hv';subst hvv';have hO6:=(hO.keep0 hkA).snoc ((.slice UA 64 uc:Value),(⟨1,(bb:Nat),0,0,YS zn⟩:POp)) (ZC (XD (by simpa using hu) _) hkw.size) (by simp) hv' hk6;have hkw6:Keep [] w0 w6:=(hkw.trans0 hkA).trans hk6 (fun x hx=>.inr (own_mem (hO.keep0 hkA).row (by simpa using hx)).1)
        go_wp2
        go_round
        case rel=>
         have hs1:(QM B zs (j+1)).1=(QM B zs j).1++[(⟨1,(bb:Nat),0,0,YS zn⟩:POp)]:=by simp only[QM,XA HGD,ZN];try simp[hq0,hq1,XA HBB]
         have hs2:(QM B zs (j+1)).2=(QM B zs j).2:=by simp only[QM,XA HGD,ZN];try simp[hq0,hq1,XA HBB]
         refine⟨j+1,oz++[((.slice UA 64 uc:Value),(⟨1,(bb:Nat),0,0,YS zn⟩:POp))],by omega,by go_num,by rw[hs2],?_,?_,hO6,hkw6⟩
         · show _=_;rw[List.map_append,XA hoz,hs1];rfl
         · show _=_;rw[List.length_append,XA hol];rfl
        case measure=>simp[intOf];omega
  · obtain rfl:j=len:=by omega
    go_wp2
    go_ret;exact⟨VA,vc,oz,rfl,XA hoz,hO,hkw⟩
end
section
open Go.RowKit Go.Shelf
inductive DoesL (B:Nat) (S:PS):List POp→PS→Prop where
 | nil:DoesL B S [] S
 | snoc {l:List POp} {o:POp} {S1 S2:PS} (h:DoesL B S l S1) (k:Does B S1 o S2):DoesL B S (l++[o]) S2
theorem FrSt.step {w0 w:World} {B f r s d x:Nat} {Fs Fx:List Nat} {S:PS} {i mW ep:Nat} (h:FrSt w0 w B f r s d x Fs Fx ⟨S,i+1,JD mW⟩) (hm:1≤mW) (hv:S.st.view=1∧S.st.seq=i∧S.st.epoch=ep) (hg:Good B S i (2*i)) (hi:i≤40)
 (k b c e n:Nat) (xs:List UInt8) (A:Option Addr) (cp:Nat) (ha:Rd w A (25+n) (bys (KF k 1 (i+1) b c e 0 xs))) (ho:OpMay k b c e n) (hlen:xs.length=n) (hfor:b+max c 1≤B∨k=3) (hof:Xe B ⟨k,b,c,e,xs⟩) (he:k=3→e=ep+1) :
 Calls Tryz.prog 25 #[.pointer (some ⟨f,0,none⟩),.slice A (25+n) cp] w fun en w'=>∃ (UA:Option Addr) (uc:Nat) (Fs' Fx':List Nat) (S':PS),en=.returned (.tuple #[.slice UA 25 uc,.int .i64 0])∧FrSt w0 w' B f r s d x Fs' Fx' ⟨S',i+1+1,JD mW⟩ ∧
  (S'.st.view=1∧S'.st.seq=i+1∧S'.st.epoch=VBS k ep)∧(k=3→S'.st.done=i+1)∧Good B S' (i+1) (2*(i+1))∧Does B S ⟨k,b,c,e,xs⟩ S'∧Keep (JO r Fs Fx) w w'∧Grow w (JO r Fs Fx) (JO r Fs' Fx'):=by
 have hv':((1:Nat):Int)=(S.st.view:Nat):=by rw[hv.1]
 refine Km h.blk ((QAz w w0.heap.size r s d x Fs Fx B _ h.rep h.kept.size k b c e n (i+1) xs A cp (by simp only;rw[hv.1];exact ha) ho hlen hfor (by omega) i (2*i) hg (by rw[Qh];omega) (by omega) (show i+1≤1000000 by omega) (VAU mW B) (by simp) (by simp;omega) (Kv _ _) hof).mono ?_);rintro en w' ⟨v,Fs',Fx',R',er,h1,h2,h3,h4,h5,h6,h7⟩;simp only[length_emptyW] at h2 h3;have hlt:(i+1) % mW<mW:=Nat.mod_lt _ hm;rw[VAK hlt _ rfl] at h3;rcases ZBK hm (q:=⟨v,⟨k,b,c,e,xs⟩,true⟩) rfl h2 with⟨q1,q2,_,_⟩ | ⟨S',q1,q2,q3⟩
 · exfalso
   apply q2;have hk3:k=3:=by simp only at q1;omega
   have:=he hk3;rw[hv.2.2];simp only;omega
 · obtain⟨hgd,hst⟩:=q1.good hof hg (by omega) (by omega)
   obtain⟨d1,d2,d3,d4,d5,d6⟩:=YBJ (st:=S.st) (k:=k) (b:=b) (c:=c) (e:=e) (xs:=xs);replace hst:S'.st=VAJ S.st ⟨k,b,c,e,xs⟩:=hst;subst q3;rcases h7 with⟨_,u,h8,h9⟩ | ⟨h7,_⟩
   · obtain⟨UA,uc,rfl,_⟩:=ZB h9
     exact⟨_,_,h8,UA,uc,Fs',Fx',S',h8,h.turn h1 h5 h6,⟨by rw[hst,d1,hv.1],by rw[hst,d3,hv.2.1],by rw[hst,d4,hv.2.2]⟩,fun h=>by rw[hst,d5 h,hv.2.1],hgd,q1,h5,h6⟩
   · omega
theorem VAv (w0 w:World) (B f r s d x len oc m:Nat) (F Fx:List Nat) (S0:PS) (OA:Option Addr) (oz:List (Value×POp)) (zs:List (Int×Int×Int)) (b0:Nat) (h:FrSt w0 w B f r s d x F Fx ⟨S0,0+1,JD m⟩) (hm:1≤m) (hB1:1≤B) (hB2:B≤64) (hv:S0.st.view=1∧S0.st.seq=0∧S0.st.epoch=0) (hg:Good B S0 0 0) (hx:Ext B S0) (hlen:len≤40)
 (hoz:oz.map (·.2)=(QM B zs len).1) (hO:OHold w b0 (JO r F Fx) (.slice OA len oc) oz) :
 Calls Tryz.prog 24 #[.pointer (some ⟨f,0,none⟩),.slice OA len oc] w fun e w'=>e=.returned (.bool true)∧∃ Fs' Fx' S',FrSt w0 w' B f r s d x Fs' Fx' ⟨S',len+1,JD m⟩∧(S'.st.view=1∧S'.st.seq=len∧S'.st.epoch=(QM B zs len).2)∧Good B S' len (2*len)∧Ext B S'∧S'.st.gen=S0.st.gen ∧
  DoesL B S0 (QM B zs len).1 S'∧OHold w' b0 (JO r Fs' Fx') (.slice OA len oc) oz∧Keep (JO r F Fx) w w'∧Grow w (JO r F Fx) (JO r Fs' Fx'):=by
 have hozl:oz.length=len:=by have:=congrArg List.length hoz;rwa [List.length_map,YAA] at this
 have HOZ:=JB hoz;have HOL:=JB hozl;clear hoz hozl
 go_enter Tryz.func24,Tryz.ntmps24
 go_wp2_with fail
 go_loopw [5] (fun i wr=>∃ (k:Nat) (Fs Fx1:List Nat) (S:PS),k≤len∧i=.int .i64 (k:Nat)∧FrSt w0 wr B f r s d x Fs Fx1 ⟨S,k+1,JD m⟩∧Hid (S.st.view=1∧S.st.seq=k∧S.st.epoch=(QM B zs k).2)∧Good B S k (2*k)∧Ext B S∧Hid (S.st.gen=S0.st.gen)∧Hid (DoesL B S0 (QM B zs k).1 S)∧OHold wr b0 (JO r Fs Fx1) (.slice OA len oc) oz∧Keep (JO r F Fx) w wr∧Grow w (JO r F Fx) (JO r Fs Fx1)) (fun i _=>len-(intOf i).toNat)
 case atStart=>exact⟨0,F,Fx,S0,by omega,rfl,h,hv,hg,hx,rfl,DoesL.nil,hO,Keep.refl _ _,Grow.refl _ _⟩
 case round=>
  clear h hv hg hx hO;obtain⟨k,Fs,Fx1,S,hk,rfl,hL,hst,hg,hx,hgn,hDL,hO,hkT,hgT⟩:=hrel
  by_cases hlt:k<len
  · have hkz:k<oz.length:=by rw[XA HOL];exact hlt
    obtain⟨pv,hpv⟩:∃ p,p=oz[k]:=⟨_,rfl⟩
    have hop:pv.2=(ZN B (zs.getD k (0,0,0)) (QM B zs k).2).1:=by
     have h1:(oz.map (·.2))[k]? = some pv.2:=by rw[List.getElem?_map,List.getElem?_eq_getElem hkz,hpv];rfl
     rw[XA HOZ,YAU B zs len k hlt] at h1;exact(Option.some.inj h1).symm
    have hepk:=Zk B zs k;obtain⟨hfor,k1,b1,c1,e1,xs,hpo,hmay,hfor2⟩:=Kj B ⟨hB1,hB2⟩ (zs.getD k (0,0,0)) (QM B zs k).2 (by omega);have hep:=Vf B (zs.getD k (0,0,0)) (QM B zs k).2;have hnx:=Xo B zs k;rw[← hop] at hpo hfor hep;rw[← hnx] at hep;have hda:=hO.data pv (by rw[hpv];exact List.getElem_mem hkz);have hrdO:=hO.rd (A:=OA) (c:=oc) (by rw[XA HOL]);rw[XA HOL] at hrdO;obtain⟨ob,oo,hOA,hobl,o0,o1,o2,o3,o4⟩:=hrdO.at_ hlt hkz;rw[← hpv] at o0 o1 o2 o3 o4;have hD1:(QM B zs (k+1)).1=(QM B zs k).1++[pv.2]:=by rw[hop];rfl
    obtain⟨DV,po⟩:=pv;simp only at hpo hda o0 o1 o2 o3 o4 hop hfor hep hD1;subst hpo;simp only at hda o0 o1 o2 o3 o4 hep;obtain⟨DA,dc,rfl,_,hdc,_⟩:=ZB hda
    have hE2:(QM B zs (k+1)).2=VBS k1 (QM B zs k).2∧(k1=3→e1=(QM B zs k).2+1):=by
     unfold VBS;rcases hep with⟨h1,h2,h3⟩ | ⟨h1,h2⟩
     · have:k1=3:=by omega
       exact⟨by rw[if_pos this,h3],fun _=>by omega⟩
     · have:¬ k1=3:=by omega
       exact⟨by rw[if_neg this,h2],fun h=>absurd h this⟩
    have HE2:=JB hE2;have HD1:=JB hD1;have hW:Calls Tryz.prog 76 #[.int .i64 ((1:Nat):Int),.int .i64 (((k+1:Nat)):Int),.agg #[.int .i64 k1,.int .i64 b1,.int .i64 c1,.int .i64 e1,.slice DA xs.length dc]] wr _:=XAp 1 (k+1) k1 b1 c1 e1 xs.length dc DA xs (by omega) (by omega) hmay wr (Rd.of_own hda) (by omega);rw[Int.natCast_add] at hW;have HOP:=JB hop;have HPV:=JB hpv;have HEP:=JB hep;have HNX:=JB hnx;have HOA:=JB hOA;clear hop hpv hep hnx hE2 hrdO hD1;subst hOA;obtain⟨n1,hn1⟩:∃ n,n=xs.length:=⟨_,rfl⟩;rw[← hn1] at hW hmay hda o4;have HN1:=JB hn1;have hn64:n1≤64:=by rcases hmay with⟨_,_,_,_,h⟩ | ⟨_,_,_,_,_,h⟩ | ⟨_,_,_,_,_,h⟩ <;> omega
    clear hn1
    go_wp2_with (first
     | (go_at_call 76
        refine hW.mono ?_;clear hW;rintro e w5 ⟨u,rfl,hu,hk5⟩;obtain⟨UA,uc,rfl,_⟩:=ZB hu
        have hT:=(hL.keep0 hk5).step hm (XA hst) hg (by omega) k1 b1 c1 e1 n1 xs UA uc (Rd.of_own hu) hmay (XA HN1).symm hfor2 hfor (XA HE2).2)
     | (go_at_call 25
        refine hT.mono ?_;clear hT;rintro e w6 ⟨VA,vc,Fs',Fx',S',rfl,hL6,hst6,_,hg6,hdo6,hk6,hgr6⟩))
    go_roundw
    case rel=>
     refine⟨k+1,Fs',Fx',S',by omega,by go_num,hL6,?_,hg6,hdo6.ext hfor hg (by omega) (by omega) hx,?_,?_,(hO.keep0 hk5).turn hk6 (fun y hy=>hy) hgr6,(hkT.trans0 hk5).trans hk6 hgT,hgT.trans (hkT.trans0 hk5).size hgr6⟩
     · show _∧_∧_
       rw[(XA HE2).1];exact hst6
     · show S'.st.gen=_
       rw[← XA hgn];exact hdo6.gen
     · show DoesL _ _ _ _
       rw[XA HD1];exact DoesL.snoc (XA hDL) hdo6
    case measure=>simp[intOf];omega
  · obtain rfl:k=len:=by omega
    go_wp2_with fail
    go_ret;exact⟨rfl,Fs,Fx1,S,hL,XA hst,hg,hx,XA hgn,XA hDL,hO,hkT,hgT⟩
end
section
open Go.RowKit Go.Shelf
section
variable (w:World) (base s d g t p m:Nat) (Fd Ft Fw Fm:List Nat) (L0 L1:Value) (B:Nat) (S:PS) (h:StoreIs w base s d g t p m Fd Ft Fw Fm L0 L1 B S)
include h
theorem YAb (hm:S.st.mode=1) (x:Bool):Calls Tryz.prog 51 #[.pointer (some ⟨s,0,none⟩),.int .i64 2,.bool x] w fun e w'=>e=.returned (.int .i64 7)∧w=w':=by
 obtain⟨c0,c1,c2,c3,c4,c5,c6,c7,c8,c9,c10,c11,c12,c13,c14,c15,c16,c17⟩:=VC h.blk;rw[hm] at c5
 go_enter Tryz.func51,Tryz.ntmps51
 go_wp2_with fail
 go_ret;exact⟨rfl,rfl⟩
theorem VAy (b n:Int):Calls Tryz.prog 52 #[.pointer (some ⟨s,0,none⟩),.int .i64 b,.int .i64 n] w fun e w'=>∃ v,e=.returned (.bool v)∧w=w':=by
 have hI:=ImageS_is w base s d g t p m Fd Ft Fw Fm L0 L1 B S h;have hB:=BlocksS_is w base s d g t p m Fd Ft Fw Fm L0 L1 B S h;have h64:B≤64:=h.log.geom.few;have c1:(1:Int)≤n∨¬ (1:Int)≤n:=by omega
 have c2:n≤(B:Nat)∨¬ n≤(B:Nat):=by omega
 have c3:0≤b∨¬ 0≤b:=by omega
 have c4:b≤(B:Nat)-n∨¬ b≤(B:Nat)-n:=by omega
 rcases c1 with h1 | h1 <;> rcases c2 with h2 | h2 <;> rcases c3 with h3 | h3 <;> rcases c4 with h4 | h4
 all_goals
  go_enter Tryz.func52,Tryz.ntmps52
  go_wp2_with (first | (refine hI.mono ?_;clear hI;rintro e w' ⟨rfl,rfl⟩) | (refine hB.mono ?_;clear hB;rintro e w' ⟨rfl,rfl⟩))
  try (go_ret;first | exact⟨true,rfl,rfl⟩ | exact⟨false,rfl,rfl⟩ | exact⟨decide (b≤(B:Nat)-n),rfl,rfl⟩ | exact⟨.inl rfl,rfl⟩ | exact⟨.inr rfl,rfl⟩)
theorem YAo (hm:S.st.mode=1) (b:Int) (A:Option Addr) (n c:Nat):Calls Tryz.prog 90 #[.pointer (some ⟨s,0,none⟩),.int .i64 b,.slice A n c] w fun e w'=>e=.returned (.int .i64 7)∧w=w':=by
 have hH:=VAy w base s d g t p m Fd Ft Fw Fm L0 L1 B S h b 1;have hA:=YAb w base s d g t p m Fd Ft Fw Fm L0 L1 B S h hm;have c1:((n:Nat):Int)=64∨¬ ((n:Nat):Int)=64:=by omega
 go_enter Tryz.func90,Tryz.ntmps90
 rcases c1 with h1 | h1
 all_goals
  go_wp2_with (first
   | (go_at_call 52;refine hH.mono ?_;clear hH;rintro e w' ⟨v,rfl,rfl⟩;cases v)
   | (go_at_call 51;refine(hA _).mono ?_;rintro e w' ⟨rfl,rfl⟩))
  all_goals
   go_ret;exact⟨rfl,rfl⟩
end
section
variable {w0 w:World} {B f r s d x:Nat} {Fs Fx:List Nat} {R:RS} (h:FrSt w0 w B f r s d x Fs Fx R)
include h
theorem YAP (b:Int) (A:Option Addr) (n c:Nat):Calls Tryz.prog 34 #[.pointer (some ⟨f,0,none⟩),.int .i64 b,.slice A n c] w fun e w'=>e=.returned (.int .i64 7)∧w=w':=by
 have hS:=KT w f r s x h.blk h.rep.blk;obtain⟨g,t,p,m,Fd,Ft,Fw,Fm,L0,L1,hs,_⟩:=h.rep.st;have hP:=YAo w _ s d g t p m Fd Ft Fw Fm L0 L1 B _ hs h.rep.mode b A n c
 go_enter Tryz.func34,Tryz.ntmps34
 go_wp2_with (first
  | (go_at_call 79;refine hS.mono ?_;clear hS;rintro e w' ⟨rfl,rfl⟩)
  | (go_at_call 90;refine hP.mono ?_;clear hP;rintro e w' ⟨rfl,rfl⟩))
 go_ret;exact⟨rfl,rfl⟩
theorem QAZ (b:Int):Calls Tryz.prog 33 #[.pointer (some ⟨f,0,none⟩),.int .i64 b] w fun e w'=>e=.returned (.tuple #[.slice none 0 0,.int .i64 7])∧Keep [] w w':=by
 have hS:=KT w f r s x h.blk h.rep.blk;have hT:=JI w _ s d Fs B R.S h.rep.st;have hmo:R.S.st.mode=1:=h.rep.mode;rw[hmo] at hT;have hfd:=fun(a0 a1 a2 a3 a4 a5 a6 a7 a8 a9:Value) W=>ZE (P:=Tryz.prog) Tryz.underlying72 0 rfl Tryz.isAgg3 #[a0,a1,a2,a3,a4,a5,a6,a7,a8,a9] rfl W
 go_enter Tryz.func33,Tryz.ntmps33
 go_wp2_with (first
  | (go_at_call 79;refine hS.mono ?_;clear hS;rintro e w' ⟨rfl,rfl⟩)
  | (go_at_call 85;refine hT.mono ?_;clear hT;rintro e w' ⟨rfl,hk⟩))
 go_ret2;exact⟨rfl,hk⟩
end
end
section
open Go.RowKit Go.Shelf
attribute [local go_sem] Oper.semAt_some
def Qc (ds:List Bool) (k:Nat):List Nat:=(List.range k).filter (fun i=>ds.getD i false)
theorem ZAM (ds:List Bool) (k:Nat):Qc ds (k+1)=if ds.getD k false then Qc ds k++[k] else Qc ds k:=by
 unfold Qc;rw[List.range_succ,List.filter_append];cases h:ds.getD k false
 · rw[if_neg (by simp)];simp only[List.filter_cons,h];simp
 · rw[if_pos rfl];simp only[List.filter_cons,h];simp
def VBD (k:Nat):Array Value:=#[.int .i64 (k:Nat)]
def KBD (ds:List Bool) (pre:List Nat) (k:Nat) (_:World):Prop:=k<ds.length∧pre=Qc ds k∧ds.getD k false=true
def KBC (base p bc:Nat) (F:List Nat) (l:List Int) (ds:List Bool) (W W':World):Prop:=
 (Boxed W bc 198 (.pointer (some ⟨p,0,none⟩))→Boxed W' bc 198 (.pointer (some ⟨p,0,none⟩)))∧(PagedAt W base p F l ds→PagedAt W' base p F l ds)
theorem YAw (n:Nat) (v:Value) (w:World) (hv:v.oneCell'=true) :
 CallsIn Fence.wide n Tryz.prog 356 #[v] w fun e w'=>e=.returned (.func (.func 393) #[] #[.pointer (some ⟨w.heap.size,0,none⟩)])∧w'=w.alloc (.cells #[v] 198):=by
 refine(callsIn_wide (n:=n)).2 ?_
 go_enter Tryz.func356,Tryz.ntmps356
 go_wp2
 go_ret;exact⟨rfl,rfl⟩
theorem YAJ (w:World) (base m p1 p2:Nat) (F F1 F2:List Nat) (I:PImage) (h:ImageIs w base m p1 p2 F F1 F2 I) (over:Bool) :
 Calls Tryz.prog 312 #[.pointer (some ⟨m,0,none⟩),.bool over] w fun e w'=>e=.returned (.func (.func 393) #[] #[.pointer (some ⟨w.heap.size,0,none⟩)])∧w'=w.alloc (.cells #[.pointer (some ⟨if over then p2 else p1,0,none⟩)] 198):=by
 have hT:=XL w base m p1 p2 F F1 F2 I h over;generalize (if over then p2 else p1)=pt at *;have hD:=(callsIn_wide (n:=0)).1 (YAw 0 (.pointer (some ⟨pt,0,none⟩)) w rfl)
 go_enter Tryz.func312,Tryz.ntmps312
 go_wp2_with (first
  | (go_at_call 119;refine hT.mono ?_;clear hT;rintro e w' ⟨rfl,rfl⟩)
  | (go_at_call 356;refine hD.mono ?_;clear hD;rintro e w' ⟨rfl,rfl⟩))
 go_ret;exact⟨rfl,rfl⟩
theorem VAn (n bc base p:Nat) (F:List Nat) (l:List Int) (ds:List Bool) (w:World) (hs:PagedAt w base p F l ds) (hbc:Boxed w bc 198 (.pointer (some ⟨p,0,none⟩))) :
 XBP n Tryz.prog 393 #[.pointer (some ⟨bc,0,none⟩)] VBD (KBD ds) (KBC base p bc F l ds) (fun xs=>xs=Qc ds ds.length) w:=by
 intro lb J W hW hJ hY h0;replace hs:PagedAt W base p F l ds:=hs.keep0 hW;replace hbc:Boxed W bc 198 (.pointer (some ⟨p,0,none⟩)):=(hW.block bc hbc.lt (by simp)).trans hbc;have hcb:=hbc.cell
 have hd5:ds.length≤5:=by
  obtain⟨L,U,h⟩:=hs;have h1:=h.pages;have h2:=h.few;rw[h1];unfold pgs;omega
 have hT:=callsIn_wide (n:=n-1).2 (Jt W base p F l ds hs);refine callsIn_of_wp Tryz.func393 rfl trivial ?_ rfl;simp only[Tryz.ntmps393,List.size_toArray,List.length_cons,List.length_nil,Nat.reduceAdd,Nat.reduceSub,Array.replicate_succ,Array.replicate_zero,List.push_toArray,List.append_toArray,List.nil_append,List.cons_append]
 gi_wp2_with (refine⟨trivial,fun h=>by simp[Fence.wide] at h,?_⟩;refine hT.mono ?_;clear hT;rintro e w' ⟨rfl,rfl⟩)
 gi_loopw [3,6] (fun _ i wr=>∃ (k:Nat) (pre:List Nat),k≤ds.length∧i=.int .i64 (k:Nat)∧J pre wr∧Hid (pre=Qc ds k)∧PagedAt wr base p F l ds∧Boxed wr bc 198 (.pointer (some ⟨p,0,none⟩)))
  (fun _ i _=>ds.length-(intOf i).toNat)
 case atStart=>exact⟨0,[],Nat.zero_le _,rfl,h0,rfl,hs,hbc⟩
 case round=>
  clear hs hbc h0 hcb;obtain⟨k,pre,hk,rfl,hJp,hpl,hs,hbc⟩:=hrel;have hcb:=hbc.cell
  by_cases hlt:k<ds.length
  · have hltI:((k:Nat):Int)<(ds.length:Nat):=by omega
    have hPA:=hs;obtain⟨L,U,hP⟩:=hs;obtain⟨g,c,u,uc,rfl,rfl,_⟩:=hP.forms;have hc2:=hP.cells.2.2;have hds:=ZAM ds k;have hgd:ds.getD k false=ds[k]:=by rw[List.getD_eq_getElem?_getD,List.getElem?_eq_getElem hlt];rfl
    have hcx:wr.cell? ⟨u,k,none⟩=some (.bool ds[k]):=JH hP.rd (by simp[hlt]);have HPA:=JB hPA;have HDS:=JB hds;have HGD:=JB hgd;clear hP hPA hds hgd
    cases hdk:ds[k] with
    | true=>
      rw[hdk] at hcx;obtain⟨fn,tmps,assign,body,hy,hR⟩:=hY pre k wr hJp ⟨hlt,XA hpl,by rw[XA HGD];exact hdk⟩;dsimp only[VBD] at hy;have HDK:=JB hdk;clear hdk;have HLT:=JB hlt
      gi_wp2
      refine⟨fun h=>by simp[Fence.wide] at h,hR.mono ?_⟩;rintro e W3 ⟨rfl,hJ3,hb3,hs3⟩;have hs4:=hs3 (XA HPA);clear hy hR hc2 hcx hs3
      gi_wp2
      go_roundw
      case rel=>exact⟨k+1,_,by omega,by go_num,hJ3,by show _=_;rw[XA HDS,XA HGD,XA HDK,XA hpl];rfl,hs4,hb3 hbc⟩
      case measure=>simp[intOf];omega
    | false=>
      rw[hdk] at hcx;have HDK:=JB hdk;clear hdk hY
      gi_wp2
      refine⟨fun f hf=>(by cases hf),?_⟩
      gi_wp2
      go_roundw
      case rel=>exact⟨k+1,pre,by omega,by go_num,hJp,by show _=_;rw[XA HDS,XA HGD,XA HDK];exact XA hpl,XA HPA,hbc⟩
      case measure=>simp[intOf];omega
  · obtain rfl:k=ds.length:=by omega
    gi_wp2
    go_end0
    exact⟨⟨_,rfl⟩,pre,XA hpl,hJp⟩
end
end Go.Proofs.YtkonbpfbjiepfaaGreat
