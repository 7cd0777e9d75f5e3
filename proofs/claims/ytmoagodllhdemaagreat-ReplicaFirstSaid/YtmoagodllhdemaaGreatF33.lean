/-
  A part of the proof: lemmas, and contracts of functions; their conditions stand in them.
-/
import Derived.Test.YtmoagodllhdemaaGreatF11
import Derived.Test.YtmoagodllhdemaaGreatF08
import Derived.Test.YtmoagodllhdemaaGreatF32
namespace Go.Proofs.YtmoagodllhdemaaGreat
set_option linter.unusedSimpArgs false
set_option linter.unusedVariables false
set_option maxHeartbeats 8000000
set_option maxRecDepth 20000
section
open Go.RowKit
def ZM (B:Nat) (z:Int×Int×Int) (ep:Nat):POp×Nat:=
 if z.1=0 then (⟨3,0,0,((ep:Nat):Int)+1,[]⟩,ep+1) else if z.1=1 then (⟨2,z.2.1 % (B:Nat),1+z.2.2 % ((B:Nat)-z.2.1 % (B:Nat)),0,[]⟩,ep) else (⟨1,z.2.1 % (B:Nat),0,0,YN z.2.2⟩,ep)
def QQ (B:Nat) (zs:List (Int×Int×Int)):Nat→List POp×Nat
 | 0=>([],0)
 | n+1=>((QQ B zs n).1++[(ZM B (zs.getD n (0,0,0)) (QQ B zs n).2).1],(ZM B (zs.getD n (0,0,0)) (QQ B zs n).2).2)
theorem VAG (B:Nat) (zs:List (Int×Int×Int)) (n:Nat):(QQ B zs n).1.length=n:=by
 induction n with
 | zero=>rfl
 | succ n ih=>simp [QQ,ih]
theorem XAD (B:Nat) (zs:List (Int×Int×Int)) (n:Nat):(QQ B zs n).2≤n:=by
 induction n with
 | zero=>simp [QQ]
 | succ n ih=>
   simp only [QQ,ZM]
   split
   · simp;exact ih
   · split <;> simp <;> omega
theorem JAd (B:Nat) (zs:List (Int×Int×Int)) (n i:Nat) (h:i<n):(QQ B zs n).1[i]? = some (ZM B (zs.getD i (0,0,0)) (QQ B zs i).2).1:=by
 induction n with
 | zero=>omega
 | succ n ih=>
   have hl:=VAG B zs n
   simp only [QQ]
   rcases Nat.lt_or_ge i n with hlt | hge
   · rw [List.getElem?_append_left (by omega),ih hlt]
   · obtain rfl:i=n:=by omega
     rw [List.getElem?_append_right (by omega),hl]
     simp
theorem VAb (B:Nat) (zs:List (Int×Int×Int)) (i:Nat):(QQ B zs (i+1)).2=(ZM B (zs.getD i (0,0,0)) (QQ B zs i).2).2:=rfl
theorem Zw (B:Nat) (z:Int×Int×Int) (ep:Nat):((ZM B z ep).1.k=3∧(ZM B z ep).1.e=((ep:Nat):Int)+1∧(ZM B z ep).2=ep+1)∨((ZM B z ep).1.k≠3∧(ZM B z ep).2=ep):=by
 unfold ZM
 split
 · exact .inl ⟨rfl,rfl,rfl⟩
 · split
   · exact .inr ⟨by simp,rfl⟩
   · exact .inr ⟨by simp,rfl⟩
theorem Jn (B:Nat) (hB:1≤B∧B≤64) (z:Int×Int×Int) (ep:Nat) (he:ep≤1000000):VP B (ZM B z ep).1∧∃ k b c e:Nat,∃ xs,(ZM B z ep).1=⟨k,b,c,e,xs⟩∧OpMay k b c e xs.length∧(b+max c 1≤B∨k=3):=by
 have h1:=Int.emod_nonneg z.2.1 (show ((B:Nat):Int)≠0 by omega)
 have h2:=Int.emod_lt_of_pos z.2.1 (show (0:Int)<((B:Nat):Int) by omega)
 have h3:=Int.emod_nonneg z.2.2 (show ((B:Nat):Int)-z.2.1 % (B:Nat)≠0 by omega)
 have h4:=Int.emod_lt_of_pos z.2.2 (show (0:Int)<((B:Nat):Int)-z.2.1 % (B:Nat) by omega)
 unfold ZM
 split
 · refine ⟨.inr (.inr ⟨rfl,?_,?_⟩),3,0,0,ep+1,[],by simp,.inr (.inr ⟨rfl,rfl,rfl,by omega,by omega,rfl⟩),.inr rfl⟩
   · dsimp only;omega
   · dsimp only;omega
 · split
   · refine ⟨.inr (.inl ⟨rfl,?_,?_,?_⟩),2,(z.2.1 % (B:Nat)).toNat,(1+z.2.2 % ((B:Nat)-z.2.1 % (B:Nat))).toNat,0,[],?_,.inr (.inl ⟨rfl,by omega,by omega,by omega,rfl,rfl⟩),.inl (by omega)⟩
     · exact h1
     · dsimp only;omega
     · dsimp only;omega
     · simp only [POp.mk.injEq,and_true];refine ⟨rfl,?_,?_,rfl⟩ <;> omega
   · refine ⟨.inl ⟨rfl,h1,h2,by simp⟩,1,(z.2.1 % (B:Nat)).toNat,0,0,YN z.2.2,?_,.inl ⟨rfl,by omega,rfl,rfl,by simp⟩,.inl (by omega)⟩
     simp only [POp.mk.injEq,and_true];refine ⟨rfl,?_,rfl,rfl⟩;omega
def PartsAt (w:World) (A:Option Addr) (len:Nat) (zs:List (Int×Int×Int)):Prop:=
 zs.length=len∧(0<len→∃ ab ao,A=some ⟨ab,ao,none⟩∧ab<w.heap.size∧∀ i z,zs[i]? = some z→w.cell? ⟨ab,ao+i*3,none⟩=some (.int .i64 z.1)∧w.cell? ⟨ab,ao+i*3+1,none⟩=some (.int .i64 z.2.1) ∧
  w.cell? ⟨ab,ao+i*3+2,none⟩=some (.int .i64 z.2.2))
theorem PartsAt.keep0 {w w':World} {A:Option Addr} {len:Nat} {zs:List (Int×Int×Int)} (h:PartsAt w A len zs) (hk:Keep [] w w'):PartsAt w' A len zs:=
 ⟨h.1,fun h0=>by
   obtain ⟨ab,ao,e,hb,hc⟩:=h.2 h0
   exact ⟨ab,ao,e,hk.lt hb,fun i z hz=>by
    obtain ⟨a,b,c⟩:=hc i z hz
    exact ⟨(hk.cell hb (by simp) _).trans a,(hk.cell hb (by simp) _).trans b,(hk.cell hb (by simp) _).trans c⟩⟩⟩
theorem PartsAt.keepF {w w':World} {l:List Nat} {A:Option Addr} {len:Nat} {zs:List (Int×Int×Int)} (h:PartsAt w A len zs) (hk:Keep l w w') (hl:∀ x∈l,w.heap.size≤x):PartsAt w' A len zs:=
 h.keep0 (hk.mono fun x hx => .inr (hl x hx))
theorem ZAj (w0:World) (B:Nat) (hB:1≤B∧B≤64) (A:Option Addr) (len cap:Nat) (zs:List (Int×Int×Int)) (hz:PartsAt w0 A len zs) (hlen:len≤60) :
 Calls Tryz.prog 11 #[.int .i64 (B:Nat),.slice A len cap] w0 fun e w'=>∃ OA oc oz,e = .returned (.slice OA len oc)∧oz.map (·.2)=(QQ B zs len).1∧OHold w' w0.heap.size [] (.slice OA len oc) oz∧Keep [] w0 w':=by
 have hzl:zs.length=len:=hz.1
 have HZL:=XC hzl
 clear hzl
 go_enter Tryz.func11,Tryz.ntmps11
 go_wp2
 go_loopw [5,6,7] (fun v ep i wr=>∃ j oz,j≤len∧i = .int .i64 (j:Nat)∧ep = .int .i64 ((QQ B zs j).2:Nat)∧Hid (oz.map (·.2)=(QQ B zs j).1)∧Hid (oz.length=j)∧OHold wr w0.heap.size [] v oz∧Keep [] w0 wr) (fun _ _ i _=>len-(intOf i).toNat)
 case atStart=>exact ⟨0,[],Nat.zero_le _,rfl,rfl,rfl,rfl,OHold.nil _ _ _,Keep.refl _ _⟩
 case round=>
  obtain ⟨j,oz,hj,rfl,rfl,hoz,hol,hO,hkw⟩:=hrel
  obtain ⟨VA,vc,hvv,_⟩:=ZB hO.row
  rw [ZA hol] at hvv
  subst hvv
  by_cases hlt:j<len
  · obtain ⟨b,o,hA',hb,hc⟩:=hz.2 (by omega)
    subst hA'
    have hjl:j<zs.length:=by rw [ZA HZL];exact hlt
    obtain ⟨c0,c1,c2⟩:=hc j zs[j] (List.getElem?_eq_getElem hjl)
    replace c0:=(hkw.cell (b:=b) hb (by simp) _).trans c0
    replace c1:=(hkw.cell (b:=b) hb (by simp) _).trans c1
    replace c2:=(hkw.cell (b:=b) hb (by simp) _).trans c2
    have hgd:zs.getD j (0,0,0)=zs[j]:=by rw [List.getD_eq_getElem?_getD,List.getElem?_eq_getElem hjl];rfl
    have hepj:=XAD B zs j
    have hbw:=hkw.lt hb
    clear hc
    generalize zs[j]=z at *
    obtain ⟨zk,zb,zn⟩:=z
    simp only at c0 c1 c2
    obtain ⟨bb,hbb,hbbB⟩:∃ bb:Nat,zb % (B:Nat)=(bb:Int)∧bb<B:=⟨(zb % (B:Nat)).toNat,by have:=Int.emod_nonneg zb (show ((B:Nat):Int)≠0 by omega);omega,by have:=Int.emod_nonneg zb (show ((B:Nat):Int)≠0 by omega);have:=Int.emod_lt_of_pos zb (show (0:Int)<((B:Nat):Int) by omega);omega⟩
    have HR:∀ W:World,Calls Tryz.prog 19 #[.int .i64 zb,.int .i64 (B:Nat)] W fun e w'=>e = .returned (.int .i64 (bb:Nat))∧W=w':=fun W=>by
     rw [← hbb];exact VO _ _ _ (by omega) (by omega)
    obtain ⟨nn,hnn,hnn2⟩:∃ nn:Nat,zn % ((B:Nat)-(bb:Nat))=(nn:Int)∧nn<B:=⟨(zn % ((B:Nat)-(bb:Nat))).toNat,by have:=Int.emod_nonneg zn (show ((B:Nat):Int)-(bb:Nat)≠0 by omega);omega,by have:=Int.emod_nonneg zn (show ((B:Nat):Int)-(bb:Nat)≠0 by omega);have:=Int.emod_lt_of_pos zn (show (0:Int)<((B:Nat):Int)-(bb:Nat) by omega);omega⟩
    have HRn:∀ W:World,Calls Tryz.prog 19 #[.int .i64 zn,.int .i64 ((B:Nat)-(bb:Nat))] W fun e w'=>e = .returned (.int .i64 (nn:Nat))∧W=w':=fun W=>by
     rw [← hnn];exact VO _ _ _ (by omega) (by omega)
    have hF:=JAE zn wr
    have HBB:=XC hbb
    have HNN:=XC hnn
    have HGD:=XC hgd
    have hv0:=hO.row
    clear hbb hnn hgd
    by_cases hq0:zk=0
    · subst hq0
      have hkA:Keep [] wr (wr.alloc (.cells #[.int .i64 3,.int .i64 0,.int .i64 0,.int .i64 (((QQ B zs j).2:Nat)+1),.slice none 0 0] 46)):=(Keep.refl _ _).alloc _
      have hrdB:Rd (wr.alloc (.cells #[.int .i64 3,.int .i64 0,.int .i64 0,.int .i64 (((QQ B zs j).2:Nat)+1),.slice none 0 0] 46)) (some ⟨wr.heap.size,0,none⟩) (1*5) (opc ((.slice none 0 0),⟨3,0,0,((QQ B zs j).2:Nat)+1,[]⟩)):=by
       have:=Rd.of_blk (n:=5) (Blk.new wr 46 #[.int .i64 3,.int .i64 0,.int .i64 0,.int .i64 (((QQ B zs j).2:Nat)+1),.slice none 0 0]) (by simp)
       simpa [opc] using this
      go_wp2_with (first
       | (refine (HR _).mono ?_;clear HR;rintro r w' ⟨rfl,rfl⟩)
       | (at_builtin;refine elemOps.wp_app rfl _ _ rfl w0.heap.size _ oz.length (oz.flatMap opc) rfl (XD hv0 _) ⟨wr.heap.size,0,none⟩ 1 1 (opc ((.slice none 0 0),⟨3,0,0,((QQ B zs j).2:Nat)+1,[]⟩)) rfl hrdB (QAC _ rfl) (by have:=ZA hol;omega) (by have:=ZA hol;omega) (by have:=hkw.size;simp;omega) ?_))
      intro v' w6 hv' hk6 _ _
      obtain ⟨VA',vc',hvv',_⟩:=ZB hv'
      subst hvv'
      have hO6:=(hO.keep0 hkA).snoc ((.slice none 0 0:Value),(⟨3,0,0,((QQ B zs j).2:Nat)+1,[]⟩:POp)) (World.ownsRow_nil _ _ _ _) (by simp) hv' hk6
      have hkw6:Keep [] w0 w6:=(hkw.trans0 hkA).trans hk6 (fun x hx => .inr (own_mem (hO.keep0 hkA).row (by simpa using hx)).1)
      go_wp2
      go_round
      case rel=>
       have hs1:(QQ B zs (j+1)).1=(QQ B zs j).1++[(⟨3,0,0,((QQ B zs j).2:Nat)+1,[]⟩:POp)]:=by simp only [QQ,ZA HGD,ZM];rfl
       have hs2:(QQ B zs (j+1)).2=(QQ B zs j).2+1:=by simp only [QQ,ZA HGD,ZM];rfl
       refine ⟨j+1,oz++[((.slice none 0 0:Value),(⟨3,0,0,((QQ B zs j).2:Nat)+1,[]⟩:POp))],by omega,by go_num,by rw [hs2];go_num,?_,?_,hO6,hkw6⟩
       · show _=_;rw [List.map_append,ZA hoz,hs1];rfl
       · show _=_;rw [List.length_append,ZA hol];rfl
      case measure=>simp [intOf];omega
    · by_cases hq1:zk=1
      · subst hq1
        have hkA:Keep [] wr (wr.alloc (.cells #[.int .i64 2,.int .i64 bb,.int .i64 (1+(nn:Nat)),.int .i64 0,.slice none 0 0] 46)):=(Keep.refl _ _).alloc _
        have hrdB:Rd (wr.alloc (.cells #[.int .i64 2,.int .i64 bb,.int .i64 (1+(nn:Nat)),.int .i64 0,.slice none 0 0] 46)) (some ⟨wr.heap.size,0,none⟩) (1*5) (opc ((.slice none 0 0),⟨2,(bb:Nat),1+(nn:Nat),0,[]⟩)):=by
         have:=Rd.of_blk (n:=5) (Blk.new wr 46 #[.int .i64 2,.int .i64 bb,.int .i64 (1+(nn:Nat)),.int .i64 0,.slice none 0 0]) (by simp)
         simpa [opc] using this
        go_wp2_with (first
         | (go_at_call 19;first | (refine (HR _).mono ?_;clear HR;rintro r w' ⟨rfl,rfl⟩) | (refine (HRn _).mono ?_;clear HRn;rintro r w' ⟨rfl,rfl⟩))
         | (at_builtin;refine elemOps.wp_app rfl _ _ rfl w0.heap.size _ oz.length (oz.flatMap opc) rfl (XD hv0 _) ⟨wr.heap.size,0,none⟩ 1 1 (opc ((.slice none 0 0),⟨2,(bb:Nat),1+(nn:Nat),0,[]⟩)) rfl hrdB (QAC _ rfl) (by have:=ZA hol;omega) (by have:=ZA hol;omega) (by have:=hkw.size;simp;omega) ?_))
        intro v' w6 hv' hk6 _ _
        obtain ⟨VA',vc',hvv',_⟩:=ZB hv'
        subst hvv'
        have hO6:=(hO.keep0 hkA).snoc ((.slice none 0 0:Value),(⟨2,(bb:Nat),1+(nn:Nat),0,[]⟩:POp)) (World.ownsRow_nil _ _ _ _) (by simp) hv' hk6
        have hkw6:Keep [] w0 w6:=(hkw.trans0 hkA).trans hk6 (fun x hx => .inr (own_mem (hO.keep0 hkA).row (by simpa using hx)).1)
        go_wp2
        go_round
        case rel=>
         have hs1:(QQ B zs (j+1)).1=(QQ B zs j).1++[(⟨2,(bb:Nat),1+(nn:Nat),0,[]⟩:POp)]:=by simp only [QQ,ZA HGD,ZM];try simp [ZA HBB,ZA HNN]
         have hs2:(QQ B zs (j+1)).2=(QQ B zs j).2:=by simp only [QQ,ZA HGD,ZM];try simp [ZA HBB,ZA HNN]
         refine ⟨j+1,oz++[((.slice none 0 0:Value),(⟨2,(bb:Nat),1+(nn:Nat),0,[]⟩:POp))],by omega,by go_num,by rw [hs2],?_,?_,hO6,hkw6⟩
         · show _=_;rw [List.map_append,ZA hoz,hs1];rfl
         · show _=_;rw [List.length_append,ZA hol];rfl
        case measure=>simp [intOf];omega
      · go_wp2_with (first
         | (go_at_call 19;refine (HR _).mono ?_;clear HR;rintro r w' ⟨rfl,rfl⟩)
         | (go_at_call 42
            refine hF.mono ?_
            clear hF
            rintro r w2 ⟨u,rfl,hu,hk2⟩
            obtain ⟨UA,uc,rfl,_⟩:=ZB hu
            have hkA:=hk2.alloc (.cells #[.int .i64 1,.int .i64 bb,.int .i64 0,.int .i64 0,.slice UA 64 uc] 46)
            have hrdB:Rd (w2.alloc (.cells #[.int .i64 1,.int .i64 bb,.int .i64 0,.int .i64 0,.slice UA 64 uc] 46)) (some ⟨w2.heap.size,0,none⟩) (1*5) (opc ((.slice UA 64 uc),⟨1,(bb:Nat),0,0,YN zn⟩)):=by
             have:=Rd.of_blk (n:=5) (Blk.new w2 46 #[.int .i64 1,.int .i64 bb,.int .i64 0,.int .i64 0,.slice UA 64 uc]) (by simp)
             simpa [opc] using this)
         | (at_builtin;refine elemOps.wp_app rfl _ _ rfl w0.heap.size _ oz.length (oz.flatMap opc) rfl (XD (XB hv0 hk2) _) ⟨w2.heap.size,0,none⟩ 1 1 (opc ((.slice UA 64 uc),⟨1,(bb:Nat),0,0,YN zn⟩)) rfl hrdB (QAC _ rfl) (by have:=ZA hol;omega) (by have:=ZA hol;omega) (by have:=hkw.size;have:=hk2.size;simp;omega) ?_))
        intro v' w6 hv' hk6 _ _
        obtain ⟨VA',vc',hvv',_⟩:=ZB hv'
        subst hvv'
        have hO6:=(hO.keep0 hkA).snoc ((.slice UA 64 uc:Value),(⟨1,(bb:Nat),0,0,YN zn⟩:POp)) (YC (XD (by simpa using hu) _) hkw.size) (by simp) hv' hk6
        have hkw6:Keep [] w0 w6:=(hkw.trans0 hkA).trans hk6 (fun x hx => .inr (own_mem (hO.keep0 hkA).row (by simpa using hx)).1)
        go_wp2
        go_round
        case rel=>
         have hs1:(QQ B zs (j+1)).1=(QQ B zs j).1++[(⟨1,(bb:Nat),0,0,YN zn⟩:POp)]:=by simp only [QQ,ZA HGD,ZM];try simp [hq0,hq1,ZA HBB]
         have hs2:(QQ B zs (j+1)).2=(QQ B zs j).2:=by simp only [QQ,ZA HGD,ZM];try simp [hq0,hq1,ZA HBB]
         refine ⟨j+1,oz++[((.slice UA 64 uc:Value),(⟨1,(bb:Nat),0,0,YN zn⟩:POp))],by omega,by go_num,by rw [hs2],?_,?_,hO6,hkw6⟩
         · show _=_;rw [List.map_append,ZA hoz,hs1];rfl
         · show _=_;rw [List.length_append,ZA hol];rfl
        case measure=>simp [intOf];omega
  · obtain rfl:j=len:=by omega
    go_wp2
    go_ret
    exact ⟨VA,vc,oz,rfl,ZA hoz,hO,hkw⟩
end
section
open Go.RowKit
def XAA (B:Nat) (zs:List (Int×Int×Int)) (j:Nat):POp:=(ZM B (zs.getD j (0,0,0)) (QQ B zs j).2).1
theorem QAz (B:Nat) (zs:List (Int×Int×Int)) (j:Nat):(idl B (XAA B zs) j).ep=(QQ B zs j).2:=by
 induction j with
 | zero=>rfl
 | succ j ih=>
   rw [VAb]
   simp only [idl,PIdl.step]
   rcases Zw B (zs.getD j (0,0,0)) (QQ B zs j).2 with ⟨h1,_,h3⟩ | ⟨h1,h3⟩
   · have h1':(XAA B zs j).k=3:=h1
     rw [if_neg (by omega),if_neg (by omega),h3]
     simp only [ih]
   · have h1':(XAA B zs j).k≠3:=h1
     rw [h3,← ih]
     split
     · rfl
     · split
       · rfl
       · exfalso
         have hk:(XAA B zs j).k=1∨(XAA B zs j).k=2∨(XAA B zs j).k=3:=by
          unfold XAA ZM
          split
          · exact .inr (.inr rfl)
          · split
            · exact .inr (.inl rfl)
            · exact .inl rfl
         omega
theorem VAx {B:Nat} (hB:1≤B∧B≤64) (zs:List (Int×Int×Int)) {len:Nat} (hl:len≤1000000):ZAO B (XAA B zs) len:=by
 intro j hj
 have he:=XAD B zs j
 refine ⟨(Jn B hB _ _ (by omega)).1,fun hk=>?_⟩
 rw [QAz]
 rcases Zw B (zs.getD j (0,0,0)) (QQ B zs j).2 with ⟨_,h2,_⟩ | ⟨h1,_⟩
 · exact h2
 · exact absurd hk h1
theorem QAU {B:Nat} {S:PS} {ops:Nat→POp} (hg:Good B S 0 0) (hb:S.I.bl=List.replicate B 0) (ho:S.I.ol=List.replicate B (-1)) (h1:S.st.epoch=0) (h2:S.st.seq=0) (h3:S.st.done=0):Stm B ops 0 S:=by
 refine ⟨hg,?_,?_,h1,h2,h3⟩
 · unfold VK
   rw [hb,List.map_replicate]
   simp [idl,PIdl.new,JH]
 · unfold VL
   rw [ho,List.map_replicate]
   simp [idl,PIdl.new]
end
section
open Go.RowKit Go.Shelf
section
variable (w:World) (base s d g t p m:Nat) (Fd Ft Fw Fm:List Nat) (L0 L1:Value) (B:Nat) (S:PS) (h:StoreIs w base s d g t p m Fd Ft Fw Fm L0 L1 B S)
include h
theorem ImageS_is:Calls Tryz.prog 50 #[.pointer (some ⟨s,0,none⟩)] w fun e w'=>e = .returned (.pointer (some ⟨m,0,none⟩))∧w=w':=by
 obtain ⟨c0,c1,c2,c3,c4,c5,c6,c7,c8,c9,c10,c11,c12,c13,c14,c15,c16,c17⟩:=JE h.blk
 go_enter Tryz.func50,Tryz.ntmps50
 go_wp2
 go_ret
 exact ⟨rfl,rfl⟩
theorem DiskS_is:Calls Tryz.prog 111 #[.pointer (some ⟨s,0,none⟩)] w fun e w'=>e = .returned (.pointer (some ⟨d,0,none⟩))∧w=w':=by
 obtain ⟨c0,c1,c2,c3,c4,c5,c6,c7,c8,c9,c10,c11,c12,c13,c14,c15,c16,c17⟩:=JE h.blk
 go_enter Tryz.func111,Tryz.ntmps111
 go_wp2
 go_ret
 exact ⟨rfl,rfl⟩
theorem BlocksS_is:Calls Tryz.prog 112 #[.pointer (some ⟨m,0,none⟩)] w fun e w'=>e = .returned (.int .i64 (B:Nat))∧w=w':=by
 obtain ⟨p1,p2,F1,F2,hi⟩:=h.img
 have:=BlocksI_is w base m p1 p2 Fm F1 F2 S.I hi
 rw [h.blen] at this
 exact this
theorem Vg (b n:Nat) (hn:1≤n) (hb:b+n≤B):Calls Tryz.prog 141 #[.pointer (some ⟨s,0,none⟩),.int .i64 (b:Nat),.int .i64 (n:Nat)] w fun e w'=>e = .returned (.bool true)∧w=w':=by
 have hI:=ImageS_is w base s d g t p m Fd Ft Fw Fm L0 L1 B S h
 have hB:=BlocksS_is w base s d g t p m Fd Ft Fw Fm L0 L1 B S h
 have h64:B≤64:=h.log.geom.few
 have h1:(1:Int)≤(n:Nat):=by omega
 have h2:((n:Nat):Int)≤(B:Nat):=by omega
 have h3:((b:Nat):Int)≤(B:Nat)-(n:Nat):=by omega
 go_enter Tryz.func141,Tryz.ntmps141
 go_wp2_with (first | (refine hI.mono ?_;clear hI;rintro e w' ⟨rfl,rfl⟩) | (refine hB.mono ?_;clear hB;rintro e w' ⟨rfl,rfl⟩))
 go_ret
 exact ⟨rfl,rfl⟩
theorem Ya (mode:Nat) (hm:mode=0∨mode=S.st.mode):Calls Tryz.prog 132 #[.pointer (some ⟨s,0,none⟩),.int .i64 (mode:Nat),.bool true] w fun e w'=>e = .returned (.int .i64 0)∧w=w':=by
 obtain ⟨c0,c1,c2,c3,c4,c5,c6,c7,c8,c9,c10,c11,c12,c13,c14,c15,c16,c17⟩:=JE h.blk
 have hOf:=XAG w base d Fd S.D h.log.disk
 rw [h.log.off] at hOf
 by_cases h0:mode=0
 · subst h0
   go_enter Tryz.func132,Tryz.ntmps132
   go_wp2_with (refine hOf.mono ?_;clear hOf;rintro e w' ⟨rfl,rfl⟩)
   go_ret
   exact ⟨rfl,rfl⟩
 · obtain rfl:=hm.resolve_left h0
   have h0':¬ ((S.st.mode:Nat):Int)=0:=by omega
   go_enter Tryz.func132,Tryz.ntmps132
   go_wp2_with (refine hOf.mono ?_;clear hOf;rintro e w' ⟨rfl,rfl⟩)
   go_ret
   exact ⟨rfl,rfl⟩
theorem XAY (hm:S.st.mode=1):Calls Tryz.prog 132 #[.pointer (some ⟨s,0,none⟩),.int .i64 1,.bool false] w fun e w'=>e = .returned (.int .i64 1)∧w=w':=by
 obtain ⟨c0,c1,c2,c3,c4,c5,c6,c7,c8,c9,c10,c11,c12,c13,c14,c15,c16,c17⟩:=JE h.blk
 rw [hm] at c5
 go_enter Tryz.func132,Tryz.ntmps132
 go_wp2_with fail
 go_ret
 exact ⟨rfl,rfl⟩
theorem Kr (a:Nat) (ha:a=0∨(6+4*pgs B≤a∧a<198+4*pgs B)) (A:Option Addr) (n c:Nat) (zs:List Int) (hz:Rd w A n (XS zs)) (hr:∀ z∈zs,z≤0∨(6+4*pgs B≤z.toNat∧z.toNat<198+4*pgs B)) (hn:n≤1000) (hA:∀ x,A=some x→x.block∉Ft) :
 Calls Tryz.prog 62 #[.pointer (some ⟨s,0,none⟩),.int .i64 (a:Nat),.slice A n c] w fun e w'=>e = .returned (.tuple #[])∧StoreIs w' base s d g t p m Fd Ft Fw Fm L0 L1 B { S with lv:=XZ B S.lv a zs }∧Keep Ft w w':=by
 have hzl:zs.length=n:=by simpa using hz.1
 have hsF:s∉Ft:=fun hm=>h.aps (by simp [hm])
 have hgF:g∉Ft:=h.log.gt
 have hfst:Calls Tryz.prog 128 #[.pointer (some ⟨t,0,none⟩),.int .i64 (a:Nat),.int .i64 1] w fun e w'=>∃ b,e = .returned (.bool b)∧TableAt w' base t g Ft S.us (XZ B S.lv a [])∧Keep Ft w w':=by
  rcases ha with rfl | ⟨h1,h2⟩
  · refine (XAn w base t g Ft S.us S.lv h.log.tab B h.log.geom 1).mono ?_
    rintro e w' ⟨rfl,hk⟩
    exact ⟨_,rfl,h.log.tab.keep0 hk,hk.zero⟩
  · refine (VAX w base t g Ft S.us S.lv h.log.tab B h.log.geom a h1 h2 1 (.inl rfl)).mono ?_
    rintro e w' ⟨rfl,ht,hk⟩
    refine ⟨_,rfl,?_,hk⟩
    unfold XZ
    rw [if_neg (by omega)]
    exact ht
 have hfin:∀ w' lv',TableAt w' base t g Ft S.us lv'→Keep Ft w w'→StoreIs w' base s d g t p m Fd Ft Fw Fm L0 L1 B { S with lv:=lv' }:=fun w' lv' ht hk=>(h.setLog (h.log.setTab ht hk) (hk.sub (fun x hx=>by simp [hx])) (Grow.refl _ _) (Grow.refl _ _)).1
 have hblk:=h.blk
 have hgeo:=h.log.geom
 obtain ⟨c0,c1,c2,c3,c4,c5,c6,c7,c8,c9,c10,c11,c12,c13,c14,c15,c16,c17⟩:=JE hblk
 clear h
 have HZL:=XC hzl
 clear hzl
 go_enter Tryz.func62,Tryz.ntmps62
 go_wp2_with (refine hfst.mono ?_;clear hfst;rintro e w1 ⟨b,rfl,ht1,hk1⟩)
 clear c0 c1 c2 c3 c4 c5 c6 c7 c8 c9 c10 c11 c12 c13 c14 c15 c16 c17
 go_loopw [16] (fun i wr=>∃ j:Nat,j≤n∧i = .int .i64 (j:Nat)∧TableAt wr base t g Ft S.us (XZ B S.lv a (zs.take j))∧Keep Ft w wr) (fun i _=>n-(intOf i).toNat)
 case atStart=>exact ⟨0,Nat.zero_le _,rfl,by simpa using ht1,hk1⟩
 case round=>
  obtain ⟨j,hj,rfl,htj,hkj⟩:=hrel
  by_cases hjn:j<n
  · have hjl:j<zs.length:=by rw [ZA HZL];exact hjn
    obtain ⟨ab,ao,u,rfl,hu,hab,hcell⟩:=(hz.keepIf hkj hA).at_ hjn
    have hzx:zs[j]? = some zs[j]:=List.getElem?_eq_getElem hjl
    simp only [XS,i64,List.getElem?_map,hzx,Option.map_some,Option.some.injEq] at hu
    have hzr:=hr zs[j] (List.getElem_mem _)
    have hsn:XZ B S.lv a (zs.take (j+1))=if 0<zs[j] then XK (XZ B S.lv a (zs.take j)) ((zs[j].toNat-(6+4*pgs B)) / 24) (-1) else XZ B S.lv a (zs.take j):=by
     unfold XZ
     rw [List.take_succ_eq_append_getElem hjl,List.foldl_append]
     rfl
    obtain ⟨c0,c1,c2,c3,c4,c5,c6,c7,c8,c9,c10,c11,c12,c13,c14,c15,c16,c17⟩:=JE (hblk.keep hkj hsF)
    subst hu
    have HSN:=XC hsn
    clear hsn hzx
    generalize zs[j]=z at *
    by_cases hz0:0<z
    · have hz1:=hzr.resolve_left (by omega)
      have hAd:=VAX wr base t g Ft S.us _ htj B (hgeo.keep hkj hgF) z.toNat hz1.1 hz1.2 (-1) (.inr rfl)
      rw [show ((z.toNat:Nat):Int)=z by omega] at hAd
      go_wp2_with (refine hAd.mono ?_;clear hAd;rintro e w2 ⟨rfl,ht2,hk2⟩)
      go_roundw
      case rel=>exact ⟨j+1,by omega,by go_num,by rw [ZA HSN,if_pos hz0];exact ht2,hkj.trans hk2 (fun x hx => .inl hx)⟩
      case measure=>simp [intOf];omega
    · go_wp2_with fail
      go_roundw
      case rel=>exact ⟨j+1,by omega,by go_num,by rw [ZA HSN,if_neg hz0];exact htj,hkj⟩
      case measure=>simp [intOf];omega
  · obtain rfl:j=n:=by omega
    go_wp2_with fail
    refine bodyPost_end (v := .tuple #[]) (by simp [results,Tryz.results62,go_sem]) rfl ?_
    rw [List.take_of_length_le (by rw [ZA HZL];exact Nat.le_refl _)] at htj
    exact ⟨rfl,hfin _ _ htj hkj,hkj⟩
theorem VAT (ho:S.W.Ok) (ha:S.D.acts≤1000000) (hlsn:S.W.pos.lsn<2147483647) :
 Calls Tryz.prog 259 #[.pointer (some ⟨s,0,none⟩)] w fun e w'=>e = .returned (.int .i64 0)∧∃ Fd' Fw' D2 us2 W2,StoreIs w' base s d g t p m Fd' Ft Fw' Fm L0 L1 B { S with D:=D2.flush,us:=us2,W:=W2 }∧Emitted B S.D S.us S.W D2 us2 W2 ∧
  Keep (Fd++(Ft++Fw)) w w'∧Grow w Fd Fd'∧Grow w Fw Fw':=by
 have hE:=Ky w base d g t p Fd Ft Fw B S.D S.us S.lv S.W h.log ho ha hlsn
 have hblk:=h.blk
 have hsn:s∉Fd++(Ft++Fw):=fun hm=>h.aps (by simp only [List.mem_cons,List.mem_append] at hm ⊢;rcases hm with hm | hm | hm <;> simp [hm])
 obtain ⟨c0,c1,c2,c3,c4,c5,c6,c7,c8,c9,c10,c11,c12,c13,c14,c15,c16,c17⟩:=JE hblk
 go_enter Tryz.func259,Tryz.ntmps259
 go_wp2_with (first
  | (go_at_call 133
     refine hE.mono ?_
     clear hE c0 c1 c2 c3 c4 c5 c6 c7 c8 c9 c10 c11 c12 c13 c14 c15 c16 c17
     rintro e w1 ⟨rfl,Fd1,Fw1,D1,us1,W1,h1,hE1,hk1,hg1,hgw1⟩
     obtain ⟨c0,c1,c2,c3,c4,c5,c6,c7,c8,c9,c10,c11,c12,c13,c14,c15,c16,c17⟩:=JE (hblk.keep hk1 hsn)
     have hf:=hE1.facts ho
     have hFl:=ZAF w1 base d Fd1 D1 h1.disk h1.off h1.fuse (by have:=hf.2.2.2.2.2.2.2.2.1;omega) h1.le)
  | (go_at_call 16
     refine hFl.mono ?_
     clear hFl
     rintro e w2 ⟨rfl,Fd2,hD2,hk2,hg2⟩))
 go_ret
 have h2:=h1.setDisk hD2 hk2 hg2 rfl rfl rfl
 have hkk:Keep (Fd++(Ft++Fw)) w w2:=hk1.trans hk2 (fun x hx=>(hg1 x hx).imp (fun h=>by simp [h]) id)
 obtain ⟨hS,_⟩:=h.setLog h2 hkk (hg1.trans hk1.size hg2) hgw1
 exact ⟨rfl,Fd2,Fw1,D1,us1,W1,hS,hE1,hkk,hg1.trans hk1.size hg2,hgw1⟩
end
end
section
open Go.RowKit Go.Shelf
theorem Xe {B:Nat} {S:PS} {x z:Int} (h:x = -1∨RefOk B S x):XF x z≤0∨(6+4*pgs B≤(XF x z).toNat∧(XF x z).toNat<198+4*pgs B):=by
 unfold XF
 split
 · exact .inl (Int.le_refl _)
 · rcases h with rfl | rfl | ⟨h0,hl⟩
   · exact .inl (by omega)
   · exact .inl (by omega)
   · right
     rw [show max x 0=x by omega]
     exact ⟨hl.lo,hl.hi⟩
theorem Qw {l:List Int} {i:Nat} (h:i<l.length):l.getD i 0∈l:=by
 rw [List.getD_eq_getElem?_getD,List.getElem?_eq_getElem h]
 exact List.getElem_mem h
theorem Good.room {B:Nat} {S:PS} {k j:Nat} (hg:Good B S k j) (hk:k≤50) {m:Nat} (hm:m≤1) (spare:Bool):YAS S.us S.W m spare:=by
 intro _ hf
 have hfree:=hg.cap.free hk hm hf
 obtain ⟨g1,g2⟩:=XR S.us (by omega)
 exact ⟨by have:=hg.cap.ul;omega,g2,fun _=>hfree⟩
theorem QAy {s g:Nat} {Fd Ft Fw Fm:List Nat} {L0 L1:Value} {l:List Nat} (h:∀ x∈l,x=s∨x∈Fd∨x∈Ft∨x∈Fw∨x∈Fm):∀ x∈l,x∈XY s g Fd Ft Fw Fm L0 L1:=fun x hx=>by
 simp only [XY,List.mem_cons,List.mem_append]
 rcases h x hx with h | h | h | h | h <;> simp [h]
theorem VAW (w:World) (base s d:Nat) (F:List Nat) (B:Nat) (S:PS) (h:StoreAt w base s d F B S) (k j:Nat) (hg:Good B S k j) (hk:k≤50) (hj:j≤20000) (hm:S.st.mode=1) (b:Nat) (hb:b<B) (A:Option Addr) (c:Nat) (bs:List UInt8) (hr:Rd w A 64 (bys bs)) (hA:∀ x,A=some x→x.block∉F) :
 Calls Tryz.prog 202 #[.pointer (some ⟨s,0,none⟩),.int .i64 (b:Nat),.slice A 64 c] w fun e w'=>e = .returned (.int .i64 0)∧∃ F' S',StoreAt w' base s d F' B S'∧Wrote B S b bs S'∧Keep F w w'∧Grow w F F':=by
 obtain ⟨g,t,p,m,Fd,Ft,Fw,Fm,L0,L1,h,rfl⟩:=h
 have hbl:bs.length=64:=by simpa using hr.1
 have hH:=Vg w base s d g t p m Fd Ft Fw Fm L0 L1 B S h b 1 (by omega) (by omega)
 have hQ:=Ya w base s d g t p m Fd Ft Fw Fm L0 L1 B S h 1 (.inr hm.symm)
 have hmay:PItem.May ⟨1,b,0,0⟩ := .inl ⟨.inl rfl,by have:=hg.b64;simp only;omega,rfl,rfl⟩
 have hacts:=hg.cap.acts
 have hlsn:=hg.cap.lsn
 have hAd:=ZAX w base d g t p Fd Ft Fw B S.D S.us S.lv S.W h.log hg.cap.ok hg.cap.off false (by omega) (by omega) hg.cap.opn ⟨1,b,0,0⟩ hmay (by simp) (hg.room hk (by unfold KU;split <;> omega) false) A c bs (by simpa [KU,PItem.loaded] using hr) (fun x hx hm=>hA x hx (QAy (by intro y hy;simp only [List.mem_append] at hy;rcases hy with h | h | h <;> simp [h]) _ hm))
 rw [show 64*KU ⟨1,b,0,0⟩=64 by simp [KU,PItem.loaded]] at hAd
 simp only [itc] at hAd
 have hblk:=h.blk
 have hseq:S.st.seq≤20000:=by have:=hg.seq;omega
 have hsn:s∉Fd++(Ft++Fw):=fun hm=>h.aps (by simp only [List.mem_cons,List.mem_append] at hm ⊢;rcases hm with hm | hm | hm <;> simp [hm])
 obtain ⟨c0,c1,c2,c3,c4,c5,c6,c7,c8,c9,c10,c11,c12,c13,c14,c15,c16,c17⟩:=JE hblk
 go_enter Tryz.func202,Tryz.ntmps202
 go_wp2_with (first
  | (go_at_call 141
     refine hH.mono ?_
     clear hH
     rintro e w' ⟨rfl,rfl⟩)
  | (go_at_call 132
     refine hQ.mono ?_
     clear hQ
     rintro e w' ⟨rfl,rfl⟩)
  | (go_at_call 256
     refine hAd.mono ?_
     clear hAd c0 c1 c2 c3 c4 c5 c6 c7 c8 c9 c10 c11 c12 c13 c14 c15 c16 c17
     rintro e w1 ⟨a,rfl,Fd1,Fw1,D1,us1,lv1,W1,h1,hA1,hk1,hg1,hgw1⟩
     have hblk1:=hblk.keep hk1 hsn
     have f8:=hblk1.frozen 8
     obtain ⟨c0,c1,c2,c3,c4,c5,c6,c7,c8,c9,c10,c11,c12,c13,c14,c15,c16,c17⟩:=JE hblk1))
 obtain ⟨hI1,hG1⟩:=h.setLog h1 hk1 hg1 hgw1
 have hks:Keep [s] w1 (w1.setCell ⟨s,8,none⟩ (.int .i64 ((S.st.seq:Nat)+1))):=(Keep.refl _ _).setCell (p:=⟨s,8,none⟩) (.inl (by simp)) _
 have hbz:=hblk1.set 8 (.int .i64 ((S.st.seq:Nat)+1))
 have hI2:=hI1.setSt { S.st with seq:=S.st.seq+1 } (by simpa using hbz) hks
 obtain ⟨_,_,_,_,hAr⟩:=hA1.reads hg.cap hk hg.now hg.many
 obtain ⟨hAr,_⟩:=hAr rfl
 have hal:=hAr.lo
 have hah:=hAr.hi
 have hp5:=(QE h.log.geom.pos h.log.geom.few).2
 have hW:=KAV _ base m Fm S.I hI2.img b a (by rw [h.blen];exact hb) (by omega)
 have hgo:=Xe (z:=(a:Nat)) (hg.orefs (S.I.ol.getD b 0) (Qw (by rw [hg.ol];exact hb)))
 obtain ⟨gone,hgone⟩:∃ z,z=XF (S.I.ol.getD b 0) a:=⟨_,rfl⟩
 rw [← hgone] at hW hgo
 have HGO:=XC hgone
 clear hgone
 generalize w1.setCell ⟨s,8,none⟩ (.int .i64 ((S.st.seq:Nat)+1))=w2 at *
 have hmF:s∉Fm:=fun hm=>h.aps (by simp [hm])
 have hblk2:=hI2.blk
 clear c0 c1 c2 c3 c4 c5 c6 c7 c8 c9 c10 c11 c12 c13 c14 c15 c16 c17
 go_wp2_with (first
  | (go_at_call 257
     refine hW.mono ?_
     clear hW
     rintro e w3 ⟨rfl,hi3,hk3⟩))
 have hI3:=hI2.setImg hi3 (by simp) hk3
 have hkB:Keep [] w3 (w3.alloc (.cells #[.int .i64 gone] 3)):=(Keep.refl _ _).alloc _
 have hrd:=KO w3 (.int .i64 gone) 3
 have hlt3:∀ x∈Ft,x<w3.heap.size:=fun x hx=>hI3.log.tab.lt x hx
 have hLv:=Kr _ base s d g t p m Fd1 Ft Fw1 Fm L0 L1 B _ (hI3.keep0 hkB) a (.inr ⟨hal,hah⟩) _ 1 1 [gone] hrd (by simpa using hgo) (by omega) (fun x hx hm=>by cases hx;have:=hlt3 _ hm;simp at this)
 go_wp2_with (refine hLv.mono ?_;clear hLv;rintro e w4 ⟨rfl,hI4,hk4⟩)
 go_ret
 have hsub:∀ {l:List Nat} {u v:World},(∀ x∈l,x=s∨x∈Fd∨x∈Ft∨x∈Fw∨x∈Fm)→Keep l u v→Keep (XY s g Fd Ft Fw Fm L0 L1) u v:=fun hl hk=>hk.sub (QAy hl)
 have K1:=hsub (by intro x hx;simp only [List.mem_append] at hx;rcases hx with h | h | h <;> simp [h]) hk1
 have K2:=K1.trans (hsub (by intro x hx;simp at hx;simp [hx]) hks) (fun x hx => .inl hx)
 have K3:=K2.trans (hsub (by intro x hx;simp [hx]) hk3) (fun x hx => .inl hx)
 have K4:=(K3.trans0 hkB).trans (hsub (by intro x hx;simp [hx]) hk4) (fun x hx => .inl hx)
 refine ⟨rfl,_,_,⟨g,t,p,m,Fd1,Ft,Fw1,Fm,L0,L1,hI4,rfl⟩,⟨D1,us1,lv1,W1,a,hA1,?_⟩,K4,hG1⟩
 rw [← ZA HGO]
end
section
open Go.RowKit Go.Shelf
theorem Vy {B:Nat} {S:PS} (b n:Nat) (l:List Int) (ds:List Bool) (h:∀ x∈l,x = -1∨RefOk B S x) (hb:b+n≤l.length) :
 (∀ x∈(VF b n l ds).2.1,x = -1∨RefOk B S x)∧∀ x∈(VF b n l ds).1,x≤0∨(6+4*pgs B≤x.toNat∧x.toNat<198+4*pgs B):=by
 induction n with
 | zero=>exact ⟨h,by intro x hx;cases hx⟩
 | succ n ih=>
   obtain ⟨h1,h2⟩:=ih (by omega)
   have hlen:=(KI b n l ds).1
   rw [QO]
   unfold YM
   refine ⟨fun x hx=>?_,fun x hx=>?_⟩
   · simp only at hx
     rcases List.mem_or_eq_of_mem_set hx with hx | rfl
     · exact h1 x hx
     · exact .inr (.inl rfl)
   · simp only at hx
     split at hx
     · rcases List.mem_append.1 hx with hx | hx
       · exact h2 x hx
       · simp only [List.mem_singleton] at hx
         subst hx
         exact Xe (h1 _ (Qw (by omega)))
     · exact h2 x (by simpa using hx)
theorem QAR {B:Nat} {S:PS} (bl ol:List Int) (k:Nat) (h:∀ x∈bl,RefOk B S x):∀ x∈Zl bl ol k,x≤0∨(6+4*pgs B≤x.toNat∧x.toNat<198+4*pgs B):=by
 intro x hx
 unfold Zl at hx
 obtain ⟨p,hp,hx⟩:=List.mem_flatMap.1 hx
 have hp1:p.1∈bl:=(List.of_mem_zip (List.mem_of_mem_take hp)).1
 split at hx
 · cases hx
 · split at hx
   · simp only [List.mem_singleton] at hx
     subst hx
     exact Xe (.inr (h _ hp1))
   · cases hx
theorem VAh (w:World) (base s d:Nat) (F:List Nat) (B:Nat) (S:PS) (h:StoreAt w base s d F B S) (k j:Nat) (hg:Good B S k j) (hk:k≤50) (hj:j≤20000) (hm:S.st.mode=1) (b n:Nat) (hn:1≤n) (hb:b+n≤B) :
 Calls Tryz.prog 203 #[.pointer (some ⟨s,0,none⟩),.int .i64 (b:Nat),.int .i64 (n:Nat)] w fun e w'=>e = .returned (.int .i64 0)∧∃ F' S',StoreAt w' base s d F' B S'∧Trimmed B S b n S'∧Keep F w w'∧Grow w F F':=by
 obtain ⟨g,t,p,m,Fd,Ft,Fw,Fm,L0,L1,h,rfl⟩:=h
 have hH:=Vg w base s d g t p m Fd Ft Fw Fm L0 L1 B S h b n hn hb
 have hQ:=Ya w base s d g t p m Fd Ft Fw Fm L0 L1 B S h 1 (.inr hm.symm)
 have hmay:PItem.May ⟨2,b,n,0⟩ := .inr (.inl ⟨.inl rfl,by have:=hg.b64;simp only;omega,hn,by have:=hg.b64;simp only;omega,rfl⟩)
 have hacts:=hg.cap.acts
 have hlsn:=hg.cap.lsn
 have hAd:=ZAX w base d g t p Fd Ft Fw B S.D S.us S.lv S.W h.log hg.cap.ok hg.cap.off false (by omega) (by omega) hg.cap.opn ⟨2,b,n,0⟩ hmay (by simp) (hg.room hk (by unfold KU;split <;> omega) false) none 0 [] (by rw [show 64*KU ⟨2,b,n,0⟩=0 by simp [KU,PItem.loaded]];exact Rd.nil w none) (fun x hx=>by cases hx)
 rw [show 64*KU ⟨2,b,n,0⟩=0 by simp [KU,PItem.loaded]] at hAd
 simp only [itc] at hAd
 have hblk:=h.blk
 have hseq:S.st.seq≤20000:=by have:=hg.seq;omega
 have hsn:s∉Fd++(Ft++Fw):=fun hm=>h.aps (by simp only [List.mem_cons,List.mem_append] at hm ⊢;rcases hm with hm | hm | hm <;> simp [hm])
 obtain ⟨c0,c1,c2,c3,c4,c5,c6,c7,c8,c9,c10,c11,c12,c13,c14,c15,c16,c17⟩:=JE hblk
 go_enter Tryz.func203,Tryz.ntmps203
 go_wp2_with (first
  | (go_at_call 141
     refine hH.mono ?_
     clear hH
     rintro e w' ⟨rfl,rfl⟩)
  | (go_at_call 132
     refine hQ.mono ?_
     clear hQ
     rintro e w' ⟨rfl,rfl⟩)
  | (go_at_call 256
     refine hAd.mono ?_
     clear hAd c0 c1 c2 c3 c4 c5 c6 c7 c8 c9 c10 c11 c12 c13 c14 c15 c16 c17
     rintro e w1 ⟨a,rfl,Fd1,Fw1,D1,us1,lv1,W1,h1,hA1,hk1,hg1,hgw1⟩
     have hblk1:=hblk.keep hk1 hsn
     have f8:=hblk1.frozen 8
     obtain ⟨c0,c1,c2,c3,c4,c5,c6,c7,c8,c9,c10,c11,c12,c13,c14,c15,c16,c17⟩:=JE hblk1))
 obtain ⟨hI1,hG1⟩:=h.setLog h1 hk1 hg1 hgw1
 have hks:Keep [s] w1 (w1.setCell ⟨s,8,none⟩ (.int .i64 ((S.st.seq:Nat)+1))):=(Keep.refl _ _).setCell (p:=⟨s,8,none⟩) (.inl (by simp)) _
 have hbz:=hblk1.set 8 (.int .i64 ((S.st.seq:Nat)+1))
 have hI2:=hI1.setSt { S.st with seq:=S.st.seq+1 } (by simpa using hbz) hks
 have hW:=VAe _ base m Fm S.I hI2.img b n hn (by rw [h.blen];exact hb)
 have hgo:=(Vy b n S.I.ol S.I.od hg.orefs (by rw [hg.ol];exact hb)).2
 have hgl:=(YO b n S.I.ol S.I.od (-1) (by omega) hI2.img.ok.2.2).2.2
 have hb64:=hg.b64
 obtain ⟨tr,htr⟩:∃ z,z=VF b n S.I.ol S.I.od:=⟨_,rfl⟩
 have htl:tr.2.1.length=S.I.ol.length:=by rw [htr];exact (KI b n S.I.ol S.I.od).1
 rw [← htr] at hW hgo hgl
 have HGO:=XC htr
 clear htr
 generalize w1.setCell ⟨s,8,none⟩ (.int .i64 ((S.st.seq:Nat)+1))=w2 at *
 have hmF:s∉Fm:=fun hm=>h.aps (by simp [hm])
 have hblk2:=hI2.blk
 clear c0 c1 c2 c3 c4 c5 c6 c7 c8 c9 c10 c11 c12 c13 c14 c15 c16 c17
 go_wp2_with (first
  | (go_at_call 258
     refine hW.mono ?_
     clear hW
     rintro e w3 ⟨G,rfl,hG,hi3,hk3⟩
     obtain ⟨GA,gc,rfl,_⟩:=ZB hG))
 have hI3:=hI2.setImg hi3 (by simp) hk3
 have hlt3:∀ x∈Ft,x<w2.heap.size:=fun x hx=>hI2.log.tab.lt x hx
 have hLv:=Kr _ base s d g t p m Fd1 Ft Fw1 Fm L0 L1 B _ hI3 0 (.inl rfl) GA tr.1.length gc tr.1 (Rd.of_own hG) hgo (by omega) (fun x hx hm=>by
  subst hx
  obtain ⟨h1,h2⟩ | ⟨gb,cap,cur,e,h1,_⟩:=hG.2
  · cases h1
  · injection e with e _ _
    injection e with e
    subst e
    have:=hlt3 _ hm
    simp at this;omega)
 go_wp2_with (refine hLv.mono ?_;clear hLv;rintro e w4 ⟨rfl,hI4,hk4⟩)
 go_ret
 have hsub:∀ {l:List Nat} {u v:World},(∀ x∈l,x=s∨x∈Fd∨x∈Ft∨x∈Fw∨x∈Fm)→Keep l u v→Keep (XY s g Fd Ft Fw Fm L0 L1) u v:=fun hl hk=>hk.sub (QAy hl)
 have K1:=hsub (by intro x hx;simp only [List.mem_append] at hx;rcases hx with h | h | h <;> simp [h]) hk1
 have K2:=K1.trans (hsub (by intro x hx;simp at hx;simp [hx]) hks) (fun x hx => .inl hx)
 have K3:=K2.trans (hsub (by intro x hx;simp [hx]) hk3) (fun x hx => .inl hx)
 have K4:=K3.trans (hsub (by intro x hx;simp [hx]) hk4) (fun x hx => .inl hx)
 refine ⟨rfl,_,_,⟨g,t,p,m,Fd1,Ft,Fw1,Fm,L0,L1,hI4,rfl⟩,⟨D1,us1,lv1,W1,a,hA1,?_⟩,K4,hG1⟩
 rw [← ZA HGO]
end
section
open Go.RowKit Go.Shelf
theorem YAP (w:World) (base s d:Nat) (F:List Nat) (B:Nat) (S:PS) (h:StoreAt w base s d F B S) (hm:S.st.mode=1) (e:Nat) (he:e≠S.st.epoch+1) (heb:S.st.epoch≤1000000000) :
 Calls Tryz.prog 204 #[.pointer (some ⟨s,0,none⟩),.int .i64 (e:Nat)] w fun r w'=>r = .returned (.int .i64 1)∧w=w':=by
 obtain ⟨g,t,p,m,Fd,Ft,Fw,Fm,L0,L1,h,rfl⟩:=h
 have hQ:=XAY w base s d g t p m Fd Ft Fw Fm L0 L1 B S h hm
 obtain ⟨c0,c1,c2,c3,c4,c5,c6,c7,c8,c9,c10,c11,c12,c13,c14,c15,c16,c17⟩:=JE h.blk
 have heI:¬ ((e:Nat):Int)=(S.st.epoch:Nat)+1:=by omega
 go_enter Tryz.func204,Tryz.ntmps204
 have heB:(((e:Nat):Int) == (S.st.epoch:Nat)+1)=false:=by simpa using heI
 clear heI he
 go_wp2_with (refine hQ.mono ?_;clear hQ;rintro r w' ⟨rfl,rfl⟩)
 go_ret
 exact ⟨rfl,rfl⟩
theorem ZAi (w:World) (base s d:Nat) (F:List Nat) (B:Nat) (S:PS) (h:StoreAt w base s d F B S) (k j:Nat) (hg:Good B S k j) (hk:k≤50) (hj:j≤20000) (hm:S.st.mode=1) (e:Nat) (he:e=S.st.epoch+1) :
 Calls Tryz.prog 204 #[.pointer (some ⟨s,0,none⟩),.int .i64 (e:Nat)] w fun r w'=>r = .returned (.int .i64 0)∧∃ F' S',StoreAt w' base s d F' B S'∧Marked B S e S'∧Keep F w w'∧Grow w F F':=by
 obtain ⟨g,t,p,m,Fd,Ft,Fw,Fm,L0,L1,h,rfl⟩:=h
 have hQ:=Ya w base s d g t p m Fd Ft Fw Fm L0 L1 B S h 1 (.inr hm.symm)
 have heb:S.st.epoch≤20000:=by have:=hg.epoch;omega
 have hmay:PItem.May ⟨3,0,0,e⟩ := .inr (.inr (.inl ⟨rfl,rfl,rfl,by simp only;omega,by simp only;omega⟩))
 have hacts:=hg.cap.acts
 have hlsn:=hg.cap.lsn
 have hAd:=ZAX w base d g t p Fd Ft Fw B S.D S.us S.lv S.W h.log hg.cap.ok hg.cap.off false (by omega) (by omega) hg.cap.opn ⟨3,0,0,e⟩ hmay (by simp) (hg.room hk (by unfold KU;split <;> omega) false) none 0 [] (by rw [show 64*KU ⟨3,0,0,e⟩=0 by simp [KU,PItem.loaded]];exact Rd.nil w none) (fun x hx=>by cases hx)
 rw [show 64*KU ⟨3,0,0,e⟩=0 by simp [KU,PItem.loaded]] at hAd
 simp only [itc] at hAd
 have hblk:=h.blk
 have hseq:S.st.seq≤20000:=by have:=hg.seq;omega
 have hsn:s∉Fd++(Ft++Fw):=fun hm=>h.aps (by simp only [List.mem_cons,List.mem_append] at hm ⊢;rcases hm with hm | hm | hm <;> simp [hm])
 obtain ⟨c0,c1,c2,c3,c4,c5,c6,c7,c8,c9,c10,c11,c12,c13,c14,c15,c16,c17⟩:=JE hblk
 have heI:((e:Nat):Int)=(S.st.epoch:Nat)+1:=by omega
 have HE:=XC he
 clear he
 go_enter Tryz.func204,Tryz.ntmps204
 go_wp2_with (first
  | (go_at_call 132
     refine hQ.mono ?_
     clear hQ heI
     rintro r w' ⟨rfl,rfl⟩)
  | (go_at_call 256
     refine hAd.mono ?_
     clear hAd c0 c1 c2 c3 c4 c5 c6 c7 c8 c9 c10 c11 c12 c13 c14 c15 c16 c17
     rintro r w1 ⟨a,rfl,Fd1,Fw1,D1,us1,lv1,W1,h1,hA1,hk1,hg1,hgw1⟩
     obtain ⟨hI1,hG1⟩:=h.setLog h1 hk1 hg1 hgw1
     have hc1:=hg.cap.added hk hmay (fun h=>by cases h) hA1
     have hLs:=VAT w1 base s d g t p m Fd1 Ft Fw1 Fm L0 L1 B _ hI1 hc1.ok (by have:=hc1.acts;simp only;omega) (by have:=hc1.lsn;simp only;omega))
  | (go_at_call 259
     refine hLs.mono ?_
     clear hLs
     rintro r w2 ⟨rfl,Fd2,Fw2,D2,us2,W2,hI2,hE2,hk2,hg2,hgw2⟩
     have hblk2:=hI2.blk
     have f7:=hblk2.frozen 7
     have f8:=hblk2.frozen 8
     have f9:=hblk2.frozen 9
     simp only at hblk2
     obtain ⟨c0,c1,c2,c3,c4,c5,c6,c7,c8,c9,c10,c11,c12,c13,c14,c15,c16,c17⟩:=JE hblk2))
 have hks:Keep [s] w2 (((w2.setCell ⟨s,7,none⟩ (.int .i64 (e:Nat))).setCell ⟨s,8,none⟩ (.int .i64 ((S.st.seq:Nat)+1))).setCell ⟨s,9,none⟩ (.int .i64 ((S.st.seq:Nat)+1))):=
  (((Keep.refl [s] w2).setCell (p:=⟨s,7,none⟩) (.inl (by simp)) _).setCell (p:=⟨s,8,none⟩) (.inl (by simp)) _).setCell (p:=⟨s,9,none⟩) (.inl (by simp)) _
 have hbz:=((hblk2.set 7 (.int .i64 (e:Nat))).set 8 (.int .i64 ((S.st.seq:Nat)+1))).set 9 (.int .i64 ((S.st.seq:Nat)+1))
 have hI3:=hI2.setSt { S.st with epoch:=e,seq:=S.st.seq+1,done:=S.st.seq+1 } (by simpa using hbz) hks
 have hCm:=VAR _ base m Fm S.I hI3.img
 have hgo:=QAR (B:=B) (S:=S) S.I.bl S.I.ol S.I.ol.length hg.brefs
 have hgl:=Vi S.I.bl S.I.ol S.I.ol.length
 have hol:=hg.ol
 have hb64:=hg.b64
 have hbl:=hg.bl
 have hcl:(Zg S.I.bl S.I.ol S.I.ol.length).length=S.I.bl.length:=Vj (by omega) (by omega)
 obtain ⟨gs,hgs⟩:∃ z,z=Zl S.I.bl S.I.ol S.I.ol.length:=⟨_,rfl⟩
 rw [← hgs] at hCm hgo hgl
 have HGO:=XC hgs
 clear hgs
 generalize ((w2.setCell ⟨s,7,none⟩ (.int .i64 (e:Nat))).setCell ⟨s,8,none⟩ (.int .i64 ((S.st.seq:Nat)+1))).setCell ⟨s,9,none⟩ (.int .i64 ((S.st.seq:Nat)+1))=w3 at *
 have hblk3:=hI3.blk
 clear c0 c1 c2 c3 c4 c5 c6 c7 c8 c9 c10 c11 c12 c13 c14 c15 c16 c17
 go_wp2_with (first
  | (go_at_call 260
     refine hCm.mono ?_
     clear hCm
     rintro r w4 ⟨G,bd,od,rfl,hG,hi4,hk4⟩
     obtain ⟨GA,gc,rfl,_⟩:=ZB hG))
 have hI4:=hI3.setImg hi4 (by simpa using hcl) hk4
 have hlt4:∀ x∈Ft,x<w3.heap.size:=fun x hx=>hI3.log.tab.lt x hx
 have hLv:=Kr _ base s d g t p m Fd2 Ft Fw2 Fm L0 L1 B _ hI4 0 (.inl rfl) GA gs.length gc gs (Rd.of_own hG) hgo (by omega) (fun x hx hm=>by
  subst hx
  obtain ⟨h1,h2⟩ | ⟨gb,cap,cur,e,h1,_⟩:=hG.2
  · cases h1
  · injection e with e _ _
    injection e with e
    subst e
    have:=hlt4 _ hm
    simp at this;omega)
 go_wp2_with (refine hLv.mono ?_;clear hLv;rintro r w5 ⟨rfl,hI5,hk5⟩)
 go_ret
 have hsub:∀ {l:List Nat} {u v:World},(∀ x∈l,x=s∨x∈Fd∨x∈Ft∨x∈Fw∨x∈Fm)→Keep l u v→Keep (XY s g Fd Ft Fw Fm L0 L1) u v:=fun hl hk=>hk.sub (QAy hl)
 have hGG:=(h.setLog h1 hk1 hg1 hgw1).2
 obtain ⟨_,hG2⟩:=hI1.setLog (hI2.log) hk2 hg2 hgw2
 have K1:=hsub (by intro x hx;simp only [List.mem_append] at hx;rcases hx with h | h | h <;> simp [h]) hk1
 have K2:=K1.trans hk2 (fun x hx=>hGG x (QAy (by intro y hy;simp only [List.mem_append] at hy;rcases hy with h | h | h <;> simp [h]) x hx))
 have K3:=K2.trans (hsub (by intro x hx;simp at hx;simp [hx]) hks) (fun x hx => .inl hx)
 have K4:=K3.trans (hsub (by intro x hx;simp [hx]) hk4) (fun x hx => .inl hx)
 have K5:=K4.trans (hsub (by intro x hx;simp [hx]) hk5) (fun x hx => .inl hx)
 refine ⟨rfl,_,_,⟨g,t,p,m,Fd2,Ft,Fw2,Fm,L0,L1,hI5,rfl⟩,⟨D1,us1,lv1,W1,a,D2,us2,W2,bd,od,hA1,hE2,?_⟩,K5,hGG.trans hk1.size hG2⟩
 rw [← ZA HGO]
end
end Go.Proofs.YtmoagodllhdemaaGreat
