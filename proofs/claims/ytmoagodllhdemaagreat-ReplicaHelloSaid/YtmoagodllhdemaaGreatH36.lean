/-
  A part of the proof: lemmas, and contracts of functions; their conditions stand in them.
-/
import Derived.Test.YtmoagodllhdemaaGreatH12
import Derived.Test.YtmoagodllhdemaaGreatH08
import Derived.Test.YtmoagodllhdemaaGreatH33
import Derived.Test.YtmoagodllhdemaaGreatH35
import Derived.Test.YtmoagodllhdemaaGreatH31
namespace Go.Proofs.YtmoagodllhdemaaGreat
set_option linter.unusedSimpArgs false
set_option linter.unusedVariables false
set_option maxHeartbeats 8000000
set_option maxRecDepth 100000
section
open Go.RowKit
def KN (B:Nat) (z:Int×Int×Int) (ep:Nat):POp×Nat:=
 if z.1=0 then (⟨3,0,0,((ep:Nat):Int)+1,[]⟩,ep+1) else if z.1=1 then (⟨2,z.2.1 % (B:Nat),1+z.2.2 % ((B:Nat)-z.2.1 % (B:Nat)),0,[]⟩,ep) else (⟨1,z.2.1 % (B:Nat),0,0,YP z.2.2⟩,ep)
def VR (B:Nat) (zs:List (Int×Int×Int)):Nat→List POp×Nat
 | 0=>([],0)
 | n+1=>((VR B zs n).1++[(KN B (zs.getD n (0,0,0)) (VR B zs n).2).1],(KN B (zs.getD n (0,0,0)) (VR B zs n).2).2)
theorem KAI (B:Nat) (zs:List (Int×Int×Int)) (n:Nat):(VR B zs n).1.length=n:=by
 induction n with
 | zero=>rfl
 | succ n ih=>simp [VR,ih]
theorem ZAE (B:Nat) (zs:List (Int×Int×Int)) (n:Nat):(VR B zs n).2≤n:=by
 induction n with
 | zero=>simp [VR]
 | succ n ih=>
   simp only [VR,KN]
   split
   · simp;exact ih
   · split <;> simp <;> omega
theorem XAk (B:Nat) (zs:List (Int×Int×Int)) (n i:Nat) (h:i<n):(VR B zs n).1[i]? = some (KN B (zs.getD i (0,0,0)) (VR B zs i).2).1:=by
 induction n with
 | zero=>omega
 | succ n ih=>
   have hl:=KAI B zs n
   simp only [VR]
   rcases Nat.lt_or_ge i n with hlt | hge
   · rw [List.getElem?_append_left (by omega),ih hlt]
   · obtain rfl:i=n:=by omega
     rw [List.getElem?_append_right (by omega),hl]
     simp
theorem YAY (B:Nat) (zs:List (Int×Int×Int)) (i:Nat):(VR B zs (i+1)).2=(KN B (zs.getD i (0,0,0)) (VR B zs i).2).2:=rfl
theorem JAg (B:Nat) (z:Int×Int×Int) (ep:Nat):((KN B z ep).1.k=3∧(KN B z ep).1.e=((ep:Nat):Int)+1∧(KN B z ep).2=ep+1)∨((KN B z ep).1.k≠3∧(KN B z ep).2=ep):=by
 unfold KN
 split
 · exact .inl ⟨rfl,rfl,rfl⟩
 · split
   · exact .inr ⟨by simp,rfl⟩
   · exact .inr ⟨by simp,rfl⟩
theorem QAM (B:Nat) (hB:1≤B∧B≤64) (z:Int×Int×Int) (ep:Nat) (he:ep≤1000000):VT B (KN B z ep).1∧∃ k b c e:Nat,∃ xs,(KN B z ep).1=⟨k,b,c,e,xs⟩∧OpMay k b c e xs.length∧(b+max c 1≤B∨k=3):=by
 have h1:=Int.emod_nonneg z.2.1 (show ((B:Nat):Int)≠0 by omega)
 have h2:=Int.emod_lt_of_pos z.2.1 (show (0:Int)<((B:Nat):Int) by omega)
 have h3:=Int.emod_nonneg z.2.2 (show ((B:Nat):Int)-z.2.1 % (B:Nat)≠0 by omega)
 have h4:=Int.emod_lt_of_pos z.2.2 (show (0:Int)<((B:Nat):Int)-z.2.1 % (B:Nat) by omega)
 unfold KN
 split
 · refine ⟨.inr (.inr ⟨rfl,?_,?_⟩),3,0,0,ep+1,[],by simp,.inr (.inr ⟨rfl,rfl,rfl,by omega,by omega,rfl⟩),.inr rfl⟩
   · dsimp only;omega
   · dsimp only;omega
 · split
   · refine ⟨.inr (.inl ⟨rfl,?_,?_,?_⟩),2,(z.2.1 % (B:Nat)).toNat,(1+z.2.2 % ((B:Nat)-z.2.1 % (B:Nat))).toNat,0,[],?_,.inr (.inl ⟨rfl,by omega,by omega,by omega,rfl,rfl⟩),.inl (by omega)⟩
     · exact h1
     · dsimp only;omega
     · dsimp only;omega
     · simp only [POp.mk.injEq,and_true];refine ⟨rfl,?_,?_,rfl⟩ <;> omega
   · refine ⟨.inl ⟨rfl,h1,h2,by simp⟩,1,(z.2.1 % (B:Nat)).toNat,0,0,YP z.2.2,?_,.inl ⟨rfl,by omega,rfl,rfl,by simp⟩,.inl (by omega)⟩
     simp only [POp.mk.injEq,and_true];refine ⟨rfl,?_,rfl,rfl⟩;omega
def PartsAt (w:World) (A:Option Addr) (len:Nat) (zs:List (Int×Int×Int)):Prop:=
 zs.length=len∧(0<len→∃ ab ao,A=some ⟨ab,ao,none⟩∧ab<w.heap.size∧∀ i z,zs[i]? = some z→w.cell? ⟨ab,ao+i*3,none⟩=some (.int .i64 z.1)∧w.cell? ⟨ab,ao+i*3+1,none⟩=some (.int .i64 z.2.1) ∧
  w.cell? ⟨ab,ao+i*3+2,none⟩=some (.int .i64 z.2.2))
theorem PartsAt.keep0 {w w':World} {A:Option Addr} {len:Nat} {zs:List (Int×Int×Int)} (h:PartsAt w A len zs) (hk:Keep [] w w'):PartsAt w' A len zs:=
 ⟨h.1,fun h0=>by
   obtain ⟨ab,ao,e,hb,hc⟩:=h.2 h0
   exact ⟨ab,ao,e,hk.lt hb,fun i z hz=>by
    obtain ⟨a,b,c⟩:=hc i z hz
    exact ⟨(hk.cell hb (by simp) _).trans a,(hk.cell hb (by simp) _).trans b,(hk.cell hb (by simp) _).trans c⟩⟩⟩
theorem PartsAt.keepF {w w':World} {l:List Nat} {A:Option Addr} {len:Nat} {zs:List (Int×Int×Int)} (h:PartsAt w A len zs) (hk:Keep l w w') (hl:∀ x∈l,w.heap.size≤x):PartsAt w' A len zs:=
 h.keep0 (hk.mono fun x hx => .inr (hl x hx))
theorem ZAm (w0:World) (B:Nat) (hB:1≤B∧B≤64) (A:Option Addr) (len cap:Nat) (zs:List (Int×Int×Int)) (hz:PartsAt w0 A len zs) (hlen:len≤60) :
 Calls Tryz.prog 11 #[.int .i64 (B:Nat),.slice A len cap] w0 fun e w'=>∃ OA oc oz,e = .returned (.slice OA len oc)∧oz.map (·.2)=(VR B zs len).1∧OHold w' w0.heap.size [] (.slice OA len oc) oz∧Keep [] w0 w':=by
 have hzl:zs.length=len:=hz.1
 have HZL:=JC hzl
 clear hzl
 go_enter Tryz.func11,Tryz.ntmps11
 go_wp2
 go_loopw [5,6,7] (fun v ep i wr=>∃ j oz,j≤len∧i = .int .i64 (j:Nat)∧ep = .int .i64 ((VR B zs j).2:Nat)∧Hid (oz.map (·.2)=(VR B zs j).1)∧Hid (oz.length=j)∧OHold wr w0.heap.size [] v oz∧Keep [] w0 wr) (fun _ _ i _=>len-(intOf i).toNat)
 case atStart=>exact ⟨0,[],Nat.zero_le _,rfl,rfl,rfl,rfl,OHold.nil _ _ _,Keep.refl _ _⟩
 case round=>
  obtain ⟨j,oz,hj,rfl,rfl,hoz,hol,hO,hkw⟩:=hrel
  obtain ⟨VA,vc,hvv,_⟩:=KB hO.row
  rw [JA hol] at hvv
  subst hvv
  by_cases hlt:j<len
  · obtain ⟨b,o,hA',hb,hc⟩:=hz.2 (by omega)
    subst hA'
    have hjl:j<zs.length:=by rw [JA HZL];exact hlt
    obtain ⟨c0,c1,c2⟩:=hc j zs[j] (List.getElem?_eq_getElem hjl)
    replace c0:=(hkw.cell (b:=b) hb (by simp) _).trans c0
    replace c1:=(hkw.cell (b:=b) hb (by simp) _).trans c1
    replace c2:=(hkw.cell (b:=b) hb (by simp) _).trans c2
    have hgd:zs.getD j (0,0,0)=zs[j]:=by rw [List.getD_eq_getElem?_getD,List.getElem?_eq_getElem hjl];rfl
    have hepj:=ZAE B zs j
    have hbw:=hkw.lt hb
    clear hc
    generalize zs[j]=z at *
    obtain ⟨zk,zb,zn⟩:=z
    simp only at c0 c1 c2
    obtain ⟨bb,hbb,hbbB⟩:∃ bb:Nat,zb % (B:Nat)=(bb:Int)∧bb<B:=⟨(zb % (B:Nat)).toNat,by have:=Int.emod_nonneg zb (show ((B:Nat):Int)≠0 by omega);omega,by have:=Int.emod_nonneg zb (show ((B:Nat):Int)≠0 by omega);have:=Int.emod_lt_of_pos zb (show (0:Int)<((B:Nat):Int) by omega);omega⟩
    have HR:∀ W:World,Calls Tryz.prog 19 #[.int .i64 zb,.int .i64 (B:Nat)] W fun e w'=>e = .returned (.int .i64 (bb:Nat))∧W=w':=fun W=>by
     rw [← hbb];exact QR _ _ _ (by omega) (by omega)
    obtain ⟨nn,hnn,hnn2⟩:∃ nn:Nat,zn % ((B:Nat)-(bb:Nat))=(nn:Int)∧nn<B:=⟨(zn % ((B:Nat)-(bb:Nat))).toNat,by have:=Int.emod_nonneg zn (show ((B:Nat):Int)-(bb:Nat)≠0 by omega);omega,by have:=Int.emod_nonneg zn (show ((B:Nat):Int)-(bb:Nat)≠0 by omega);have:=Int.emod_lt_of_pos zn (show (0:Int)<((B:Nat):Int)-(bb:Nat) by omega);omega⟩
    have HRn:∀ W:World,Calls Tryz.prog 19 #[.int .i64 zn,.int .i64 ((B:Nat)-(bb:Nat))] W fun e w'=>e = .returned (.int .i64 (nn:Nat))∧W=w':=fun W=>by
     rw [← hnn];exact QR _ _ _ (by omega) (by omega)
    have hF:=KAH zn wr
    have HBB:=JC hbb
    have HNN:=JC hnn
    have HGD:=JC hgd
    have hv0:=hO.row
    clear hbb hnn hgd
    by_cases hq0:zk=0
    · subst hq0
      have hkA:Keep [] wr (wr.alloc (.cells #[.int .i64 3,.int .i64 0,.int .i64 0,.int .i64 (((VR B zs j).2:Nat)+1),.slice none 0 0] 46)):=(Keep.refl _ _).alloc _
      have hrdB:Rd (wr.alloc (.cells #[.int .i64 3,.int .i64 0,.int .i64 0,.int .i64 (((VR B zs j).2:Nat)+1),.slice none 0 0] 46)) (some ⟨wr.heap.size,0,none⟩) (1*5) (opc ((.slice none 0 0),⟨3,0,0,((VR B zs j).2:Nat)+1,[]⟩)):=by
       have:=Rd.of_blk (n:=5) (Blk.new wr 46 #[.int .i64 3,.int .i64 0,.int .i64 0,.int .i64 (((VR B zs j).2:Nat)+1),.slice none 0 0]) (by simp)
       simpa [opc] using this
      go_wp2_with (first
       | (refine (HR _).mono ?_;clear HR;rintro r w' ⟨rfl,rfl⟩)
       | (at_builtin;refine elemOps.wp_app rfl _ _ rfl w0.heap.size _ oz.length (oz.flatMap opc) rfl (QE hv0 _) ⟨wr.heap.size,0,none⟩ 1 1 (opc ((.slice none 0 0),⟨3,0,0,((VR B zs j).2:Nat)+1,[]⟩)) rfl hrdB (VAC _ rfl) (by have:=JA hol;omega) (by have:=JA hol;omega) (by have:=hkw.size;simp;omega) ?_))
      intro v' w6 hv' hk6 _ _
      obtain ⟨VA',vc',hvv',_⟩:=KB hv'
      subst hvv'
      have hO6:=(hO.keep0 hkA).snoc ((.slice none 0 0:Value),(⟨3,0,0,((VR B zs j).2:Nat)+1,[]⟩:POp)) (World.ownsRow_nil _ _ _ _) (by simp) hv' hk6
      have hkw6:Keep [] w0 w6:=(hkw.trans0 hkA).trans hk6 (fun x hx => .inr (own_mem (hO.keep0 hkA).row (by simpa using hx)).1)
      go_wp2
      go_round
      case rel=>
       have hs1:(VR B zs (j+1)).1=(VR B zs j).1++[(⟨3,0,0,((VR B zs j).2:Nat)+1,[]⟩:POp)]:=by simp only [VR,JA HGD,KN];rfl
       have hs2:(VR B zs (j+1)).2=(VR B zs j).2+1:=by simp only [VR,JA HGD,KN];rfl
       refine ⟨j+1,oz++[((.slice none 0 0:Value),(⟨3,0,0,((VR B zs j).2:Nat)+1,[]⟩:POp))],by omega,by go_num,by rw [hs2];go_num,?_,?_,hO6,hkw6⟩
       · show _=_;rw [List.map_append,JA hoz,hs1];rfl
       · show _=_;rw [List.length_append,JA hol];rfl
      case measure=>simp [intOf];omega
    · by_cases hq1:zk=1
      · subst hq1
        have hkA:Keep [] wr (wr.alloc (.cells #[.int .i64 2,.int .i64 bb,.int .i64 (1+(nn:Nat)),.int .i64 0,.slice none 0 0] 46)):=(Keep.refl _ _).alloc _
        have hrdB:Rd (wr.alloc (.cells #[.int .i64 2,.int .i64 bb,.int .i64 (1+(nn:Nat)),.int .i64 0,.slice none 0 0] 46)) (some ⟨wr.heap.size,0,none⟩) (1*5) (opc ((.slice none 0 0),⟨2,(bb:Nat),1+(nn:Nat),0,[]⟩)):=by
         have:=Rd.of_blk (n:=5) (Blk.new wr 46 #[.int .i64 2,.int .i64 bb,.int .i64 (1+(nn:Nat)),.int .i64 0,.slice none 0 0]) (by simp)
         simpa [opc] using this
        go_wp2_with (first
         | (go_at_call 19;first | (refine (HR _).mono ?_;clear HR;rintro r w' ⟨rfl,rfl⟩) | (refine (HRn _).mono ?_;clear HRn;rintro r w' ⟨rfl,rfl⟩))
         | (at_builtin;refine elemOps.wp_app rfl _ _ rfl w0.heap.size _ oz.length (oz.flatMap opc) rfl (QE hv0 _) ⟨wr.heap.size,0,none⟩ 1 1 (opc ((.slice none 0 0),⟨2,(bb:Nat),1+(nn:Nat),0,[]⟩)) rfl hrdB (VAC _ rfl) (by have:=JA hol;omega) (by have:=JA hol;omega) (by have:=hkw.size;simp;omega) ?_))
        intro v' w6 hv' hk6 _ _
        obtain ⟨VA',vc',hvv',_⟩:=KB hv'
        subst hvv'
        have hO6:=(hO.keep0 hkA).snoc ((.slice none 0 0:Value),(⟨2,(bb:Nat),1+(nn:Nat),0,[]⟩:POp)) (World.ownsRow_nil _ _ _ _) (by simp) hv' hk6
        have hkw6:Keep [] w0 w6:=(hkw.trans0 hkA).trans hk6 (fun x hx => .inr (own_mem (hO.keep0 hkA).row (by simpa using hx)).1)
        go_wp2
        go_round
        case rel=>
         have hs1:(VR B zs (j+1)).1=(VR B zs j).1++[(⟨2,(bb:Nat),1+(nn:Nat),0,[]⟩:POp)]:=by simp only [VR,JA HGD,KN];try simp [JA HBB,JA HNN]
         have hs2:(VR B zs (j+1)).2=(VR B zs j).2:=by simp only [VR,JA HGD,KN];try simp [JA HBB,JA HNN]
         refine ⟨j+1,oz++[((.slice none 0 0:Value),(⟨2,(bb:Nat),1+(nn:Nat),0,[]⟩:POp))],by omega,by go_num,by rw [hs2],?_,?_,hO6,hkw6⟩
         · show _=_;rw [List.map_append,JA hoz,hs1];rfl
         · show _=_;rw [List.length_append,JA hol];rfl
        case measure=>simp [intOf];omega
      · go_wp2_with (first
         | (go_at_call 19;refine (HR _).mono ?_;clear HR;rintro r w' ⟨rfl,rfl⟩)
         | (go_at_call 42
            refine hF.mono ?_
            clear hF
            rintro r w2 ⟨u,rfl,hu,hk2⟩
            obtain ⟨UA,uc,rfl,_⟩:=KB hu
            have hkA:=hk2.alloc (.cells #[.int .i64 1,.int .i64 bb,.int .i64 0,.int .i64 0,.slice UA 64 uc] 46)
            have hrdB:Rd (w2.alloc (.cells #[.int .i64 1,.int .i64 bb,.int .i64 0,.int .i64 0,.slice UA 64 uc] 46)) (some ⟨w2.heap.size,0,none⟩) (1*5) (opc ((.slice UA 64 uc),⟨1,(bb:Nat),0,0,YP zn⟩)):=by
             have:=Rd.of_blk (n:=5) (Blk.new w2 46 #[.int .i64 1,.int .i64 bb,.int .i64 0,.int .i64 0,.slice UA 64 uc]) (by simp)
             simpa [opc] using this)
         | (at_builtin;refine elemOps.wp_app rfl _ _ rfl w0.heap.size _ oz.length (oz.flatMap opc) rfl (QE (YB hv0 hk2) _) ⟨w2.heap.size,0,none⟩ 1 1 (opc ((.slice UA 64 uc),⟨1,(bb:Nat),0,0,YP zn⟩)) rfl hrdB (VAC _ rfl) (by have:=JA hol;omega) (by have:=JA hol;omega) (by have:=hkw.size;have:=hk2.size;simp;omega) ?_))
        intro v' w6 hv' hk6 _ _
        obtain ⟨VA',vc',hvv',_⟩:=KB hv'
        subst hvv'
        have hO6:=(hO.keep0 hkA).snoc ((.slice UA 64 uc:Value),(⟨1,(bb:Nat),0,0,YP zn⟩:POp)) (KC (QE (by simpa using hu) _) hkw.size) (by simp) hv' hk6
        have hkw6:Keep [] w0 w6:=(hkw.trans0 hkA).trans hk6 (fun x hx => .inr (own_mem (hO.keep0 hkA).row (by simpa using hx)).1)
        go_wp2
        go_round
        case rel=>
         have hs1:(VR B zs (j+1)).1=(VR B zs j).1++[(⟨1,(bb:Nat),0,0,YP zn⟩:POp)]:=by simp only [VR,JA HGD,KN];try simp [hq0,hq1,JA HBB]
         have hs2:(VR B zs (j+1)).2=(VR B zs j).2:=by simp only [VR,JA HGD,KN];try simp [hq0,hq1,JA HBB]
         refine ⟨j+1,oz++[((.slice UA 64 uc:Value),(⟨1,(bb:Nat),0,0,YP zn⟩:POp))],by omega,by go_num,by rw [hs2],?_,?_,hO6,hkw6⟩
         · show _=_;rw [List.map_append,JA hoz,hs1];rfl
         · show _=_;rw [List.length_append,JA hol];rfl
        case measure=>simp [intOf];omega
  · obtain rfl:j=len:=by omega
    go_wp2
    go_ret
    exact ⟨VA,vc,oz,rfl,JA hoz,hO,hkw⟩
end
section
open Go.RowKit Go.Shelf
theorem JAB (k v s b c e d:Int) (A A':Option Addr) (n n' m m':Nat) (xs:List UInt8) (w:World) (ha:Rd w A n (bys xs)) (ha':Rd w A' n' (bys xs)) (hn:n≤1000000) :
 Calls Tryz.prog 72 #[.agg #[.int .i64 k,.int .i64 v,.int .i64 s,.int .i64 b,.int .i64 c,.int .i64 e,.int .i64 d,.slice A n m],.agg #[.int .i64 k,.int .i64 v,.int .i64 s,.int .i64 b,.int .i64 c,.int .i64 e,.int .i64 d,.slice A' n' m']] w fun r w'=>r = .returned (.bool true)∧Keep [] w w':=by
 have h1:xs.length=n:=by simpa using ha.1
 have h2:xs.length=n':=by simpa using ha'.1
 have hT:=fun W (hk:Keep [] w W)=>Vx A A' n n' m m' xs xs W (ha.keep hk) (ha'.keep hk) (by omega) (by omega)
 simp only [decide_true] at hT
 clear h1 h2
 go_enter Tryz.func72,Tryz.ntmps72
 go_wp2_with (refine (hT _ (((Keep.refl _ _).alloc _).alloc _)).mono ?_;clear hT;rintro e w' ⟨rfl,k,rfl⟩)
 go_ret
 exact ⟨rfl,(((Keep.refl _ _).alloc _).alloc _).drewN _⟩
theorem Ju (w:World) (base s d:Nat) (Fs:List Nat) (B:Nat) (S:PS) (h:StoreAt w base s d Fs B S) (A:Option Addr) (c:Nat) (ha:Rd w A 25 (bys (KE 8 S.st.view S.st.seq 0 0 S.st.epoch S.st.done [])))
 (hm:FrMay 8 S.st.view S.st.seq 0 0 S.st.epoch S.st.done []) :
 Calls Tryz.prog 25 #[.slice A 25 c,.pointer (some ⟨s,0,none⟩)] w fun e w'=>e = .returned (.bool true)∧Keep [] w w':=by
 have hD:=ZV 8 S.st.view S.st.seq 0 0 S.st.epoch S.st.done [] hm A 25 c w ha
 have hS:=fun W (hk:Keep [] w W)=>QH W base s d Fs B S (h.keep0 hk)
 generalize S.st=st at *
 obtain ⟨mode,view,epoch,seq,done,mount,gen⟩:=st
 simp only at hD hS hm
 go_enter Tryz.func25,Tryz.ntmps25
 go_wp2_with (first
  | (go_at_call 43
     refine hD.mono ?_
     clear hD
     rintro e w1 ⟨UA,uc,rfl,hu,hk1⟩
     have hkA:=hk1.alloc (.cells #[.int .i64 ((8:Nat):Int),.int .i64 view,.int .i64 seq,.int .i64 ((0:Nat):Int),.int .i64 ((0:Nat):Int),.int .i64 epoch,.int .i64 done,.slice UA 0 uc] 85)
     have hS1:=hS _ hkA)
  | (go_at_call 17
     refine hS1.mono ?_
     clear hS1
     rintro e w2 ⟨rfl,hk2⟩
     have hkB:=hk2.alloc (.cells #[.int .i64 mode,.int .i64 view,.int .i64 epoch,.int .i64 seq,.int .i64 done,.int .i64 mount,.int .i64 gen,.int .i64 (ZE S.us:Nat),.int .i64 (QAR S:Nat),.int .i64 (YG S.I.ol:Nat)] 51)
     obtain ⟨f0,f1,f2,f3,f4,f5,f6,f7⟩:=XC ((Blk.new w1 85 #[.int .i64 ((8:Nat):Int),.int .i64 view,.int .i64 seq,.int .i64 ((0:Nat):Int),.int .i64 ((0:Nat):Int),.int .i64 epoch,.int .i64 done,.slice UA 0 uc]).keep0 hkB)
     have hT:∀ W,Calls Tryz.prog 72 #[.agg #[.int .i64 8,.int .i64 view,.int .i64 seq,.int .i64 0,.int .i64 0,.int .i64 epoch,.int .i64 done,.slice UA 0 uc],.agg #[.int .i64 8,.int .i64 view,.int .i64 seq,.int .i64 0,.int .i64 0,.int .i64 epoch,.int .i64 done,.slice none 0 0]] W fun r w'=>r = .returned (.bool true)∧Keep [] W w':=fun W=>JAB 8 view seq 0 0 epoch done UA none 0 0 uc 0 [] W (Rd.nil _ _) (Rd.nil _ _) (by omega))
  | (go_at_call 72
     refine (hT _).mono ?_
     clear hT
     rintro e w3 ⟨rfl,hk3⟩))
 go_ret
 exact ⟨rfl,(hkA.trans0 hkB).trans0 hk3⟩
end
section
open Go.RowKit Go.Shelf
section
variable (w:World) (base r s d x:Nat) (Fs Fx:List Nat) (B:Nat) (R:RS) (h:ReplicaIs w base r s d x Fs Fx B R)
include h
end
end
section
open Go.RowKit Go.Shelf
def Xi (l:List Int) (k:Nat):List Int:=(l.drop (k*15)).take 15
theorem Ya (l:List Int) (k:Nat):(Xi l k).length=min 15 (l.length-k*15):=by simp [Xi]
theorem JAm {l:List Int} {k:Nat} {x:Int} (h:x∈Xi l k):x∈l:=List.mem_of_mem_drop (List.mem_of_mem_take h)
theorem KAl {k:Nat} (h:k<5):IntKind.i64.wrap (((k:Nat):Int)*15)=((k:Nat):Int)*15:=by rw [IntKind.wrap_i64];omega
theorem ZAr {k:Nat} (h:k<5):IntKind.i64.wrap (((k:Nat):Int)+1)=((k:Nat):Int)+1:=by rw [IntKind.wrap_i64];omega
theorem YAW {k:Nat} (h:k<5):IntKind.i64.wrap ((((k:Nat):Int)+1)*15)=(((k:Nat):Int)+1)*15:=by rw [IntKind.wrap_i64];omega
theorem YBC (w:World) (base p:Nat) (F:List Nat) (l:List Int) (ds:List Bool) (h:PagedAt w base p F l ds) (k:Nat) (hk:k<ds.length) :
 Calls Tryz.prog 303 #[.pointer (some ⟨p,0,none⟩),.int .i64 (k:Nat)] w fun e w'=>∃ A c,e = .returned (.slice A (Xi l k).length c)∧Rd w A (Xi l k).length (QQ (Xi l k))∧1≤(Xi l k).length∧w'=w.drew:=by
 have hT:=Zy w base p F l ds h
 obtain ⟨L,U,h⟩:=h
 obtain ⟨g,c,u,uc,rfl,rfl,hgu,hpg,hpu⟩:=h.forms
 obtain ⟨c0,c1,c2⟩:=h.cells
 have hpos:=h.pos
 have hfew:=h.few
 have hpgs:=h.pages
 have hb:15*pgs l.length≤l.length+14∧pgs l.length≤5:=by unfold pgs;omega
 rw [← hpgs] at hb
 have hcap:l.length≤c:=by
  rcases h.rl.2 with ⟨he,_⟩ | ⟨g',cap,cur,he,hb,hg,hn,hm,hs,ht⟩
  · cases he
  · cases he;exact hn
 obtain ⟨hi,hh1,hh2,hh3,hh4,hh5⟩:∃ hi:Nat,min (((k:Nat)+1)*15:Int) (l.length:Nat)=(hi:Nat)∧hi≤l.length∧k*15<hi∧hi≤k*15+15∧hi-k*15=min 15 (l.length-k*15):=⟨min ((k+1)*15) l.length,by omega,by omega,by omega,by omega,by omega⟩
 have hrd:=((Rd.of_own h.rl).cutA (k:=k*15) (cap:=c) (by omega) hcap).take (k:=hi-k*15) (by omega)
 have hpl:(Xi l k).length=hi-k*15:=by rw [Ya,hh5]
 have hpe:((QQ l).drop (k*15)).take (hi-k*15)=QQ (Xi l k):=by
  unfold Xi QQ
  rw [List.map_take,List.map_drop,List.take_eq_take_iff]
  simp;omega
 rw [hpe] at hrd
 rw [hpl]
 have hk5:((k:Nat):Int)<5:=by omega
 have hkI:((k:Nat):Int)<(ds.length:Nat):=by omega
 clear hpe hpl hpgs h hh5
 generalize l.length=n at *
 generalize ds.length=q at *
 go_enter Tryz.func303,Tryz.ntmps303
 go_wp2_with (refine hT.mono ?_;clear hT;rintro e w' ⟨rfl,rfl⟩)
 refine KA (fun w'=>w'.cell? ⟨p,0,none⟩=some (.slice (some ⟨g,0,none⟩) n c)∧w'.cell? ⟨p,1,none⟩=some (.int .i64 15)) 23 [(0,false),(1,false),(2,false),(3,false),(4,false),(5,false),(6,false),(7,false),(8,false),(9,false),(10,false),(11,false),(12,false),(13,false),(14,false),(15,false),(16,false),(17,false),(18,false),(19,false),(20,false),(21,false),(22,false)]
  (by kernel_rfl) (by kernel_rfl) (fun _ _ d _ _ h=>by cases d <;> exact h) ⟨c0,c1⟩ ?_
 simp only [PI]
 iterate 23 (refine XB ?_ (by rfl) ?_ ?_;rotate_left;(focus (rintro W ⟨hW1,hW2⟩;go_simp;try with_reducible rfl));simp only [Act.put,PU])
 refine YC ?_
 go_wp2_with (refine YW rfl (.tmp 16) (some (.tmp 22)) (some (.tmp 35)) rfl (.slice (cutA (some ⟨g,0,none⟩) (k*15) c) (hi-k*15) (c-k*15)) ?hrun ?_)
 case hrun=>
  intro W
  have:=elemInts.run_lh (some ⟨g,0,none⟩) n c .i64 .i64 (((k:Nat):Int)*15) (hi:Nat) (by omega) (by omega) (by omega) W
  rw [show ((hi:Nat):Int).toNat-(((k:Nat):Int)*15).toNat=hi-k*15 by omega,show (((k:Nat):Int)*15).toNat=k*15 by omega] at this
  show Sem.run Tryz.prog (Instr.sliceAt 75 (.slice (some ⟨g,0,none⟩) n c) (some (.int .i64 (IntKind.i64.wrap (((k:Nat):Int)*15)))) (some (.int .i64 (min (IntKind.i64.wrap (IntKind.i64.wrap (((k:Nat):Int)+1)*15)) (n:Nat)))) none) W=_
  rw [KAl (by omega),ZAr (by omega),YAW (by omega),hh1]
  exact this
 go_ret
 exact ⟨_,_,rfl,hrd,by omega,rfl⟩
theorem YAG (w:World) (base p:Nat) (F:List Nat) (l:List Int) (ds:List Bool) (h:PagedAt w base p F l ds) (k:Nat) (hk:k<ds.length) :
 Calls Tryz.prog 267 #[.pointer (some ⟨p,0,none⟩),.int .i64 (k:Nat)] w fun e w'=>∃ u,e = .returned u∧w'.ownsRow w.heap.size 3 1 u (Xi l k).length (QQ (Xi l k))∧Keep [] w w':=by
 have hT:=YBC w base p F l ds h k hk
 have hl:(Xi l k).length≤15:=by rw [Ya];omega
 generalize Xi l k=l2 at *
 go_enter Tryz.func267,Tryz.ntmps267
 go_wp2_with (first
  | (go_at_call 303;refine hT.mono ?_;clear hT;rintro e w' ⟨A,c,rfl,hrd,hpos,rfl⟩;(have hC:=KU A l2.length c l2 w.drew hrd.drew (by omega)))
  | (go_at_call 181;refine hC.mono ?_;clear hC;rintro e w' ⟨V,rfl,hV,hkV⟩;(have ho:=JAb hV)))
 go_ret
 exact ⟨_,rfl,hV,(Keep.refl _ _).drew.trans0 hkV⟩
theorem VAK (w:World) (base m:Nat) (F:List Nat) (I:PImage) (h:ImageAt w base m F I) (over:Bool) (k:Nat) (hk:k<(if over then I.od else I.bd).length) :
 Calls Tryz.prog 214 #[.pointer (some ⟨m,0,none⟩),.bool over,.int .i64 (k:Nat)] w fun e w'=>∃ u,e = .returned u∧w'.ownsRow w.heap.size 3 1 u (Xi (if over then I.ol else I.bl) k).length (QQ (Xi (if over then I.ol else I.bl) k))∧Keep [] w w':=by
 obtain ⟨p1,p2,F1,F2,h⟩:=h
 have hT:=XO w base m p1 p2 F F1 F2 I h over
 have hP:Calls Tryz.prog 267 #[.pointer (some ⟨if over then p2 else p1,0,none⟩),.int .i64 (k:Nat)] w fun e w'=>∃ u,e = .returned u∧w'.ownsRow w.heap.size 3 1 u (Xi (if over then I.ol else I.bl) k).length (QQ (Xi (if over then I.ol else I.bl) k))∧Keep [] w w':=by
  cases over
  · exact YAG w base p1 F1 I.bl I.bd h.b k hk
  · exact YAG w base p2 F2 I.ol I.od h.o k hk
 generalize Xi (if over then I.ol else I.bl) k=l2 at *
 generalize (if over then p2 else p1)=pt at *
 go_enter Tryz.func214,Tryz.ntmps214
 go_wp2_with (first
  | (go_at_call 129;refine hT.mono ?_;clear hT;rintro e w' ⟨rfl,rfl⟩)
  | (go_at_call 267;refine hP.mono ?_;clear hP;rintro e w' ⟨V,rfl,hV,hkV⟩;(have ho:=JAb hV)))
 go_ret
 exact ⟨_,rfl,hV,hkV⟩
end
section
open Go.RowKit Go.Shelf
attribute [local go_sem] Oper.semAt_some
def VY (ds:List Bool) (k:Nat):List Nat:=(List.range k).filter (fun i=>ds.getD i false)
theorem ZAF (ds:List Bool) (k:Nat):VY ds (k+1)=if ds.getD k false then VY ds k++[k] else VY ds k:=by
 unfold VY
 rw [List.range_succ,List.filter_append]
 cases h:ds.getD k false
 · rw [if_neg (by simp)];simp only [List.filter_cons,h];simp
 · rw [if_pos rfl];simp only [List.filter_cons,h];simp
def VAp (k:Nat):Array Value:=#[.int .i64 (k:Nat)]
def YAq (ds:List Bool) (pre:List Nat) (k:Nat) (_:World):Prop:=k<ds.length∧pre=VY ds k∧ds.getD k false=true
def ZAp (base p bc:Nat) (F:List Nat) (l:List Int) (ds:List Bool) (W W':World):Prop:=
 (Boxed W bc 209 (.pointer (some ⟨p,0,none⟩))→Boxed W' bc 209 (.pointer (some ⟨p,0,none⟩)))∧(PagedAt W base p F l ds→PagedAt W' base p F l ds)
theorem ZAo (n:Nat) (v:Value) (w:World) (hv:v.oneCell'=true) :
 CallsIn Fence.wide n Tryz.prog 266 #[v] w fun e w'=>e = .returned (.func (.func 301) #[] #[.pointer (some ⟨w.heap.size,0,none⟩)])∧w'=w.alloc (.cells #[v] 209):=by
 refine (callsIn_wide (n:=n)).2 ?_
 go_enter Tryz.func266,Tryz.ntmps266
 go_wp2
 go_ret
 exact ⟨rfl,rfl⟩
theorem Xz (w:World) (base m p1 p2:Nat) (F F1 F2:List Nat) (I:PImage) (h:ImageIs w base m p1 p2 F F1 F2 I) (over:Bool) :
 Calls Tryz.prog 212 #[.pointer (some ⟨m,0,none⟩),.bool over] w fun e w'=>e = .returned (.func (.func 301) #[] #[.pointer (some ⟨w.heap.size,0,none⟩)])∧w'=w.alloc (.cells #[.pointer (some ⟨if over then p2 else p1,0,none⟩)] 209):=by
 have hT:=XO w base m p1 p2 F F1 F2 I h over
 generalize (if over then p2 else p1)=pt at *
 have hD:=(callsIn_wide (n:=0)).1 (ZAo 0 (.pointer (some ⟨pt,0,none⟩)) w rfl)
 go_enter Tryz.func212,Tryz.ntmps212
 go_wp2_with (first
  | (go_at_call 129;refine hT.mono ?_;clear hT;rintro e w' ⟨rfl,rfl⟩)
  | (go_at_call 266;refine hD.mono ?_;clear hD;rintro e w' ⟨rfl,rfl⟩))
 go_ret
 exact ⟨rfl,rfl⟩
theorem KAV (n bc base p:Nat) (F:List Nat) (l:List Int) (ds:List Bool) (w:World) (hs:PagedAt w base p F l ds) (hbc:Boxed w bc 209 (.pointer (some ⟨p,0,none⟩))) :
 XAq n Tryz.prog 301 #[.pointer (some ⟨bc,0,none⟩)] VAp (YAq ds) (ZAp base p bc F l ds) (fun xs=>xs=VY ds ds.length) w:=by
 intro lb J W hW hJ hY h0
 replace hs:PagedAt W base p F l ds:=hs.keep0 hW
 replace hbc:Boxed W bc 209 (.pointer (some ⟨p,0,none⟩)):=(hW.block bc hbc.lt (by simp)).trans hbc
 have hcb:=hbc.cell
 have hd5:ds.length≤5:=by
  obtain ⟨L,U,h⟩:=hs
  have h1:=h.pages
  have h2:=h.few
  rw [h1];unfold pgs;omega
 have hT:=callsIn_wide (n:=n-1).2 (Zy W base p F l ds hs)
 refine callsIn_of_wp Tryz.func301 rfl trivial ?_ rfl
 simp only [Tryz.ntmps301,List.size_toArray,List.length_cons,List.length_nil,Nat.reduceAdd,Nat.reduceSub,Array.replicate_succ,Array.replicate_zero,List.push_toArray,List.append_toArray,List.nil_append,List.cons_append]
 gi_wp2_with (refine ⟨trivial,fun h=>by simp [Fence.wide] at h,?_⟩;refine hT.mono ?_;clear hT;rintro e w' ⟨rfl,rfl⟩)
 gi_loopw [3,6] (fun _ i wr=>∃ (k:Nat) (pre:List Nat),k≤ds.length∧i = .int .i64 (k:Nat)∧J pre wr∧Hid (pre=VY ds k)∧PagedAt wr base p F l ds∧Boxed wr bc 209 (.pointer (some ⟨p,0,none⟩)))
  (fun _ i _=>ds.length-(intOf i).toNat)
 case atStart=>exact ⟨0,[],Nat.zero_le _,rfl,h0,rfl,hs,hbc⟩
 case round=>
  clear hs hbc h0 hcb
  obtain ⟨k,pre,hk,rfl,hJp,hpl,hs,hbc⟩:=hrel
  have hcb:=hbc.cell
  by_cases hlt:k<ds.length
  · have hltI:((k:Nat):Int)<(ds.length:Nat):=by omega
    have hPA:=hs
    obtain ⟨L,U,hP⟩:=hs
    obtain ⟨g,c,u,uc,rfl,rfl,_⟩:=hP.forms
    have hc2:=hP.cells.2.2
    have hds:=ZAF ds k
    have hgd:ds.getD k false=ds[k]:=by rw [List.getD_eq_getElem?_getD,List.getElem?_eq_getElem hlt];rfl
    have hcx:wr.cell? ⟨u,k,none⟩=some (.bool ds[k]):=XJ hP.rd (by simp [hlt])
    have HPA:=JC hPA
    have HDS:=JC hds
    have HGD:=JC hgd
    clear hP hPA hds hgd
    cases hdk:ds[k] with
    | true=>
      rw [hdk] at hcx
      obtain ⟨fn,tmps,assign,body,hy,hR⟩:=hY pre k wr hJp ⟨hlt,JA hpl,by rw [JA HGD];exact hdk⟩
      dsimp only [VAp] at hy
      have HDK:=JC hdk
      clear hdk
      have HLT:=JC hlt
      gi_wp2
      refine ⟨fun h=>by simp [Fence.wide] at h,hR.mono ?_⟩
      rintro e W3 ⟨rfl,hJ3,hb3,hs3⟩
      have hs4:=hs3 (JA HPA)
      clear hy hR hc2 hcx hs3
      gi_wp2
      go_roundw
      case rel=>exact ⟨k+1,_,by omega,by go_num,hJ3,by show _=_;rw [JA HDS,JA HGD,JA HDK,JA hpl];rfl,hs4,hb3 hbc⟩
      case measure=>simp [intOf];omega
    | false=>
      rw [hdk] at hcx
      have HDK:=JC hdk
      clear hdk hY
      gi_wp2
      refine ⟨fun f hf=>(by cases hf),?_⟩
      gi_wp2
      go_roundw
      case rel=>exact ⟨k+1,pre,by omega,by go_num,hJp,by show _=_;rw [JA HDS,JA HGD,JA HDK];exact JA hpl,JA HPA,hbc⟩
      case measure=>simp [intOf];omega
  · obtain rfl:k=ds.length:=by omega
    gi_wp2
    go_end0
    exact ⟨⟨_,rfl⟩,pre,JA hpl,hJp⟩
end
end Go.Proofs.YtmoagodllhdemaaGreat
