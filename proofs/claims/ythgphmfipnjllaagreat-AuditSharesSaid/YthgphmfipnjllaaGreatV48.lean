/- Lemmas of the proof, with their conditions. -/
import Derived.Test.YthgphmfipnjllaaGreatV47
namespace Go.Proofs.YthgphmfipnjllaaGreat
set_option linter.unusedSimpArgs false
set_option linter.unusedVariables false
set_option maxHeartbeats 8000000
set_option maxRecDepth 100000
section
open Go.RowKit Go.Shelf
attribute [local go_sem] Oper.semAt_some
section
variable (w0 w:World) (dk:Option Nat) (x s mb bx N:Nat) (R:Value) (rs:List PRef) (tf:Nat→Nat→Nat) (fs:List PFlt) (base d g t p m:Nat) (Fd Ft Fw Fm:List Nat) (L0 L1:Value) (B:Nat) (S:PS)
theorem KAr (h:JI w0 dk x s mb bx N R rs tf fs w) (hS:StoreIs w0 base s d g t p m Fd Ft Fw Fm L0 L1 B S) (hlf:fs.length≤1000) :
 Calls Tryz.prog 75 #[.pointer (some ⟨x,0,none⟩)] w fun e w'=>e=.returned (.tuple #[])∧JI w0 dk x s mb bx N R rs tf (fs++Zh S.us) w':=by
 obtain⟨L,hA⟩:=h
 have hT:=TableS_is w base s d g t p m Fd Ft Fw Fm L0 L1 B S (hS.keep0 hA.keep)
 have hU:=YAh w base t g Ft S.us S.lv (hS.log.tab.keep0 hA.keep)
 have hul:S.us.length=8:=by obtain⟨_,_,ht⟩:=hS.log.tab;exact ht.ulen
 have hou:Zh S.us=if Kk S.us=1 then [] else [(5,Kk S.us,0)]:=rfl
 have hon:Kk S.us=S.us.countP (fun u=>u.1 == 1):=rfl
 obtain⟨us,hus⟩:∃ us,us=S.us:=⟨_,rfl⟩
 rw[← hus] at hU hul hou hon ⊢
 obtain⟨c0,c1,c2,c3⟩:=JC hA.blk
 have HOU:=ZB hou
 have HON:=ZB hon
 have HUL:=ZB hul
 clear hou hon hus hul hS
 go_enter Tryz.func75,Tryz.ntmps75
 go_wp2_with (first
  | (go_at_call 25;refine hT.mono ?_;clear hT;rintro e w' ⟨rfl,rfl⟩)
  | (go_at_call 149;refine hU.mono ?_;clear hU;rintro e w1 ⟨u,uc,rfl,huc,hu,hk1⟩))
 clear c0 c1 c2 c3
 have hA1:=hA.keep0 hk1
 clear hA hk1
 go_loopw [2,12] (fun q i wr=>∃ j:Nat,j≤8∧i=.int .i64 j∧q=.int .i64 ((us.take j).countP (fun u=>u.1 == 1):Nat)∧Keep [] w1 wr) (fun _ i _=>8-(intOf i).toNat)
 case atStart=>exact⟨0,Nat.zero_le _,rfl,rfl,Keep.refl _ _⟩
 case round=>
  obtain⟨j,hj,rfl,rfl,hkV⟩:=hrel
  have hcl:(us.take j).countP (fun u=>u.1 == 1)≤8:=Nat.le_trans (List.countP_le_length) (by rw[List.length_take];omega)
  by_cases hlt2:j<8
  · have hltI2:((j:Nat):Int)<8:=by omega
    have hjl:j<us.length:=by rw[QA HUL];exact hlt2
    have hR':=ZA hu hkV
    have hrf:=Rd.of_ownN hR'
    have hgl:u<wr.heap.size:=(own_mem hR' (g:=u) (by simp[Value.ownBlock])).2
    have r0:=(YC XG hrf hjl (j:=0) (by omega)).2
    have r1:=(YC XG hrf hjl (j:=1) (by omega)).2
    have hcs:=XP (fun u:Nat×Nat=>u.1 == 1) us j hjl
    generalize us[j]=r at *
    obtain⟨ra,rb⟩:=r
    simp only[Jk,List.getElem?_cons_zero,List.getElem?_cons_succ,Nat.add_zero] at r0 r1 hcs
    obtain⟨q,hq⟩:∃ q,q=(us.take j).countP (fun u=>u.1 == 1):=⟨_,rfl⟩
    rw[← hq] at hcs hcl ⊢
    have HCS:=ZB hcs
    clear hq hcs hjl hrf hR'
    by_cases he:ra=1
    · have heI:((ra:Nat):Int)=1:=by omega
      have HE:=ZB he
      clear he
      go_wp2
      go_roundw
      case rel=>
       refine⟨j+1,by omega,by go_num,?_,hkV.alloc _⟩
       rw[QA HCS,if_pos (by simp[QA HE])]
       go_num
      case measure=>simp[intOf];omega
    · have heI:¬ ((ra:Nat):Int)=1:=by omega
      have heD:decide (((ra:Nat):Int)=1)=false:=decide_eq_false heI
      have HE:=ZB he
      clear he
      go_wp2
      go_roundw
      case rel=>
       refine⟨j+1,by omega,by go_num,?_,hkV.alloc _⟩
       rw[QA HCS,if_neg (by simp[QA HE])]
       simp
      case measure=>simp[intOf];omega
  · obtain rfl:j=8:=by omega
    have hall:us.take 8=us:=List.take_of_length_le (by rw[QA HUL];exact Nat.le_refl _)
    rw[hall] at hcl ⊢
    have hA2:=hA1.keep0 hkV
    have hou:=QA HOU
    rw[QA HON] at hou
    generalize us.countP (fun u=>u.1 == 1)=q at *
    have hbs:w0.heap.size≤wr.heap.size:=hA2.keep.size
    have HOU2:=ZB hou
    clear hou hA1 hall hkV hu
    obtain⟨c0,c1,c2,c3⟩:=JC hA2.blk
    by_cases he:q=1
    · have heI:((q:Nat):Int)=1:=by omega
      have HE:=ZB he
      clear he
      go_wp2
      go_end0
      exact⟨rfl,L,by rw[QA HOU2,if_pos (QA HE),List.append_nil];exact hA2⟩
    · have heI:¬ ((q:Nat):Int)=1:=by omega
      have heD:decide (((q:Nat):Int)=1)=false:=decide_eq_false heI
      have HE:=ZB he
      clear he
      obtain⟨LA,lc,rfl,_⟩:=QB hA2.flt
      obtain⟨nf,hnf⟩:∃ nf,nf=fs.length:=⟨_,rfl⟩
      go_wp2_with (
       at_builtin
       refine elemFlt.wp_app rfl _ _ rfl w0.heap.size (.slice LA fs.length lc) fs.length (fs.flatMap VAT) rfl (YD hA2.flt _) ⟨wr.heap.size,0,none⟩ 1 1 [.int .i64 5,.int .i64 q,.int .i64 0] rfl (QAB wr _ _ _) (by simp[Value.oneCell']) (by omega) (by omega) (by rw[World.size_alloc];omega) ?_
       rintro L' w3 hL3 hk3 hat _
       obtain⟨VA,vc,rfl,_⟩:=QB hL3
       have hx3:=(hA2.keep0 ((Keep.refl [] wr).alloc (.cells #[.int .i64 5,.int .i64 (q:Nat),.int .i64 0] 59))).blk.keep hk3 (fun hm=>own_blk_ne hA2.flt hA2.blk (by decide) (by simpa using hm))
       have f3:=hx3.frozen 3
       have hxl:=hx3.lt
       have c3':=(JC hx3).2.2.2)
      go_end0
      have hp:=(hA2.keep0 ((Keep.refl [] wr).alloc (.cells #[.int .i64 5,.int .i64 (q:Nat),.int .i64 0] 59))).push (5,q,0) hk3 hL3
      exact⟨rfl,.slice VA (fs.length+1) vc,by rw[QA HOU2,if_neg (QA HE)];exact hp⟩
end
end
section
open Go.RowKit Go.Shelf
attribute [local go_sem] Oper.semAt_some
def Zo (us:List (Nat×Nat)) (T:Nat→List (Nat×Nat)):Nat→Nat→Nat→Nat
 | 0,_,_=>0
 | k+1,b,a=>Zo us T k b a+if Qb us k then (T k).count (b,a) else 0
def KAL (us:List (Nat×Nat)) (T:Nat→List (Nat×Nat)) (k j:Nat):Nat→Nat→Nat:=fun b a=>Zo us T k b a+((T k).take j).count (b,a)
theorem QAj (us:List (Nat×Nat)) (T:Nat→List (Nat×Nat)) (k:Nat):KAL us T k 0=Zo us T k:=by funext b a;simp[KAL]
theorem JAU (us:List (Nat×Nat)) (T:Nat→List (Nat×Nat)) (k j:Nat) (h:j<(T k).length):KAL us T k (j+1)=KBA (KAL us T k j) (T k)[j].1 (T k)[j].2:=by
 funext b a
 unfold KAL KBA
 rw[List.take_succ_eq_append_getElem h,List.count_append,List.count_singleton]
 by_cases e:b=(T k)[j].1∧a=(T k)[j].2
 · obtain⟨rfl,rfl⟩:=e
   simp
   omega
 · rw[if_neg e,if_neg]
   · simp
   · intro h2
     have:(T k)[j]=(b,a):=by simpa using h2
     exact e ⟨by rw[this],by rw[this]⟩
theorem YAw (us:List (Nat×Nat)) (T:Nat→List (Nat×Nat)) (k b a n:Nat) (h:∀ s,s<k→(T s).length≤n):Zo us T k b a≤n*k:=by
 induction k with
 | zero=>simp[Zo]
 | succ k ih=>
   have h1:=ih (fun s hs=>h s (by omega))
   have h2:=h k (by omega)
   have h3:=List.count_le_length (l:=T k) (a:=(b,a))
   simp only[Zo]
   rw[Nat.mul_succ]
   split <;> omega
section
variable (w0 w:World) (dk:Option Nat) (x s mb bx N:Nat) (R:Value) (rs:List PRef) (fs:List PFlt) (base d g t p m:Nat) (Fd Ft Fw Fm:List Nat) (L0 L1:Value) (B:Nat) (S:PS) (T:Nat→List (Nat×Nat))
theorem VAk (h:JI w0 dk x s mb bx 0 R rs (fun _ _=>0) fs w) (hS:StoreIs w0 base s d g t p m Fd Ft Fw Fm L0 L1 B S)
 (hal:∀ W,Keep [] w0 W→∀ sg,sg<8→Qb S.us sg=true→Calls Tryz.prog 97 #[.pointer (some ⟨d,0,none⟩),.pointer (some ⟨g,0,none⟩),.pointer (some ⟨m,0,none⟩),.int .i64 (sg:Nat)] W fun e w'=>∃ U,e=.returned (.tuple #[U,.int .i64 0])∧w'.ownsRow W.heap.size 135 2 U (T sg).length ((T sg).flatMap blc)∧Keep [] W w')
 (hTl:∀ sg,(T sg).length≤600) (hTb:∀ sg,∀ q∈T sg,q.1≤100000∧q.2≤100000) :
 Calls Tryz.prog 65 #[.pointer (some ⟨x,0,none⟩)] w fun e w'=>e=.returned (.int .i64 0)∧∃ N',JI w0 dk x s mb bx N' R rs (Zo S.us T 8) fs w':=by
 obtain⟨L,hA⟩:=h
 have hG:=GeomS_is w base s d g t p m Fd Ft Fw Fm L0 L1 B S (hS.keep0 hA.keep)
 have hC:=fun W (hk:Keep [] w0 W)=>ConfigG_is W g B (hS.log.geom.keep0 hk)
 have hfd:=fun W=>VF (P:=Tryz.prog) Tryz.underlying27 1 rfl Tryz.isAgg3 #[.int .i64 B,.int .i64 8,.int .i64 24] rfl W
 have hDs:=fun W (hk:Keep [] w0 W)=>DiskS_is W base s d g t p m Fd Ft Fw Fm L0 L1 B S (hS.keep0 hk)
 have hGs:=fun W (hk:Keep [] w0 W)=>GeomS_is W base s d g t p m Fd Ft Fw Fm L0 L1 B S (hS.keep0 hk)
 have hIs:=fun W (hk:Keep [] w0 W)=>ImageS_is W base s d g t p m Fd Ft Fw Fm L0 L1 B S (hS.keep0 hk)
 have hUs:=fun W N' f (hW:JI w0 dk x s mb bx N' R rs f fs W) k (hk:k<8)=>VAF w0 W dk x s mb bx N' R rs f fs base d g t p m Fd Ft Fw Fm L0 L1 B S k hW hS hk
 obtain⟨us,hus⟩:∃ us,us=S.us:=⟨_,rfl⟩
 rw[← hus] at hal hUs ⊢
 have HAL:=ZB hal
 have HDS:=ZB hDs
 have HGS:=ZB hGs
 have HIS:=ZB hIs
 have HUS:=ZB hUs
 have HTL:=ZB hTl
 have HTB:=ZB hTb
 obtain⟨c0,c1,c2,c3⟩:=JC hA.blk
 clear hal hDs hGs hIs hUs hus hS hTl hTb
 go_enter Tryz.func65,Tryz.ntmps65
 go_wp2_with (first
  | (go_at_call 20;refine hG.mono ?_;clear hG;rintro e w' ⟨rfl,rfl⟩)
  | (go_at_call 93;refine(hC _ hA.keep).mono ?_;clear hC;rintro e w1 ⟨rfl,hk1⟩))
 clear c0 c1 c2 c3
 have hA1:JI w0 dk x s mb bx 0 R rs (Zo us T 0) fs w1:=⟨L,hA.keep0 hk1⟩
 go_loopw [15] (fun i wr=>∃ k N':Nat,k≤8∧N'≤600*k∧i=.int .i64 k∧JI w0 dk x s mb bx N' R rs (Zo us T k) fs wr) (fun i _=>8-(intOf i).toNat)
 case atStart=>exact⟨0,0,Nat.zero_le _,by omega,rfl,hA1⟩
 case round=>
  clear hA1 hA hk1 L
  obtain⟨k,N',hk,hN',rfl,hAk⟩:=hrel
  generalize wr=V at *
  by_cases hlt:k<8
  · have hltI:((k:Nat):Int)<8:=by omega
    have hUk:=QA HUS V N' _ hAk k hlt
    obtain⟨ub,hub⟩:∃ ub,ub=Qb us k:=⟨_,rfl⟩
    rw[← hub] at hUk
    have HUB:=ZB hub
    clear hub
    cases ub
    · go_wp2_with (refine hUk.mono ?_;clear hUk;rintro e w' ⟨rfl,rfl⟩)
      go_roundw
      case rel=>
       refine⟨k+1,N',by omega,by omega,by go_num,?_⟩
       have:Zo us T (k+1)=Zo us T k:=by funext b a;simp[Zo,← QA HUB]
       rw[this];exact hAk
      case measure=>simp[intOf];omega
    · obtain⟨L,hA⟩:=hAk
      have hkV:=hA.keep
      go_wp2_with (refine hUk.mono ?_;clear hUk;rintro e w' ⟨rfl,rfl⟩)
      have hcd:=(JC (hA.keep0 (Keep.refl [] V).drew).blk).1
      refine ZT (fun W=>W.cell? ⟨x,0,none⟩=some (.pointer (some ⟨s,0,none⟩))) 21 [[0,1,2,3,5,6,7,8,10,11,12,13,15],[4],[9],[14],[16,17,18,19,20]] hcd ?_
      simp only[PI]
      iterate 13 (refine ZH ?_;simp only[Act.put,PU])
      refine XB (by rfl) (fun K hK=>?_)
      go_wp2_with (refine(QA HDS _ hkV.drew).mono ?_;rintro e w' ⟨rfl,rfl⟩)
      refine hK _ _ (hcd) ?_
      clear hK K
      try simp only[Act.put,PU]
      refine XB (by rfl) (fun K hK=>?_)
      go_wp2_with (refine(QA HGS _ hkV.drew).mono ?_;rintro e w' ⟨rfl,rfl⟩)
      refine hK _ _ (hcd) ?_
      clear hK K
      try simp only[Act.put,PU]
      refine XB (by rfl) (fun K hK=>?_)
      go_wp2_with (refine(QA HIS _ hkV.drew).mono ?_;rintro e w' ⟨rfl,rfl⟩)
      refine hK _ _ (hcd) ?_
      clear hK K
      try simp only[Act.put,PU]
      refine XB (by rfl) (fun K hK=>?_)
      go_wp2_with (refine(QA HAL _ hkV.drew k hlt (QA HUB).symm).mono ?_;rintro e w2 ⟨U,rfl,hU,hk2⟩)
      have hA2:=(hA.keep0 (Keep.refl [] V).drew).keep0 hk2
      have hc2:=(JC hA2.blk).1
      refine hK _ _ (hc2) ?_
      clear hK K
      try simp only[Act.put,PU]
      iterate 4 (refine ZH ?_;simp only[Act.put,PU])
      refine JB ?_
      have hTl:=QA HTL k
      have hTb:=QA HTB k
      have hcl:=fun b a=>YAw us T k b a 600 (fun s _=>QA HTL s)
      obtain⟨TL,hTLe⟩:∃ TL,TL=T k:=⟨_,rfl⟩
      rw[← hTLe] at hU hTl hTb
      obtain⟨nT,hnT⟩:∃ n,n=TL.length:=⟨_,rfl⟩
      rw[← hnT] at hU hTl
      obtain⟨UA,uc,rfl,_⟩:=QB hU
      have HTLE:=ZB hTLe
      have HNT:=ZB hnT
      have HTB2:=ZB hTb
      have HCL:=ZB hcl
      clear hTLe hnT hTb hcd hc2 hcl
      go_wp2
      have hA3:ALookL w0 dk x s mb bx N' R rs (KAL us T k 0) L fs w2:=by rw[QAj];exact hA2
      clear hA2 hA hkV
      go_loopw [47] (fun i wr=>∃ j N'':Nat,j≤nT∧N''≤600*k+j∧i=.int .i64 j∧ALookL w0 dk x s mb bx N'' R rs (KAL us T k j) L fs wr∧wr.ownsRow V.drew.heap.size 135 2 (.slice UA nT uc) nT (TL.flatMap blc)) (fun i _=>nT-(intOf i).toNat)
      case atStart=>exact⟨0,N',Nat.zero_le _,by omega,rfl,hA3,hU⟩
      case round=>
       clear hA3 hU
       obtain⟨j,N'',hj,hN'',rfl,hA,hU⟩:=hrel
       generalize wr=V2 at *
       by_cases hlt2:j<nT
       · have hltI2:((j:Nat):Int)<(nT:Nat):=by omega
         have hjl:j<TL.length:=by rw[← QA HNT];exact hlt2
         obtain⟨g1,rfl⟩:∃ g1,UA=some ⟨g1,0,none⟩:=by
          obtain⟨g',c',he,_⟩:=QD hU (by omega)
          cases he
          exact⟨g',rfl⟩
         have hrf:=Rd.of_ownN hU
         have hgl:g1<V2.heap.size:=(own_mem hU (g:=g1) (by simp[Value.ownBlock])).2
         rw[QA HNT] at hrf
         have r0:=(YC (f:=blc) (fun _=>rfl) hrf hjl (j:=0) (by omega)).2
         have r1:=(YC (f:=blc) (fun _=>rfl) hrf hjl (j:=1) (by omega)).2
         have hqb:=QA HTB2 _ (List.getElem_mem hjl)
         have hcs:KAL us T k (j+1)=KBA (KAL us T k j) TL[j].1 TL[j].2:=by
          have h9:=QA HTLE
          subst h9
          exact JAU us T k j hjl
         have hcv:KAL us T k j TL[j].1 TL[j].2≤6000:=by
          unfold KAL
          have h1:=QA HCL TL[j].1 TL[j].2
          have h2:=List.count_le_length (l:=(T k).take j) (a:=(TL[j].1,TL[j].2))
          rw[List.length_take] at h2
          omega
         generalize TL[j]=q at *
         obtain⟨qb,qa⟩:=q
         simp only[blc,List.getElem?_cons_zero,List.getElem?_cons_succ,Nat.add_zero] at r0 r1 hqb hcs hcv
         obtain⟨hqb1,hqa1⟩:=hqb
         have HCS:=ZB hcs
         clear hcs hjl hrf
         have hka:=(Keep.refl [] V2).alloc (.cells #[.int .i64 qb,.int .i64 qa] 135)
         have hbl:=Blk.new V2 135 #[.int .i64 qb,.int .i64 qa]
         go_wp2_with fail
         have hAd:=(hA.keep0 hka).keep0 (Keep.refl [] _).drew
         have hbd:=hbl.keep0 (Keep.refl [] _).drew
         have hUd:=(ZA hU hka)
         replace hUd:=ZA hUd (Keep.refl [] _).drew
         generalize (V2.alloc (.cells #[.int .i64 qb,.int .i64 qa] 135))=V3 at *
         have hF:∀ W:World,W.cell? ⟨x,2,none⟩=V3.drew.cell? ⟨x,2,none⟩→W.cell? ⟨V2.heap.size,0,none⟩=V3.drew.cell? ⟨V2.heap.size,0,none⟩→W.cell? ⟨V2.heap.size,1,none⟩=V3.drew.cell? ⟨V2.heap.size,1,none⟩ →
          W.cell? ⟨x,2,none⟩=some (.map (some mb))∧W.cell? ⟨V2.heap.size,0,none⟩=some (.int .i64 qb)∧W.cell? ⟨V2.heap.size,1,none⟩=some (.int .i64 qa):=fun W h1 h2 h3=>
          ⟨h1.trans (JC hAd.blk).2.2.1,h2.trans (by simpa using hbd.cell 0),h3.trans (by simpa using hbd.cell 1)⟩
         obtain⟨v0,st,W1,hme,hk1,hs1,hlk1,W2,hes,hk2',hs2,hM2⟩:=hAd.told.more qb qa hqb1 hqa1 (by omega) (by omega)
         have hlk0:=hAd.told.look qb qa hqb1 hqa1
         simp only[Vn,goInt] at hme hlk1 hlk0 hes
         have hmx:x∉[mb]:=by simpa using(YS hAd.blk hAd.told).symm
         have hmb2:V2.heap.size∉[mb]:=by simpa using(YS hbd hAd.told).symm
         have hF0:=hF V3.drew rfl rfl rfl
         have hF1:=hF W1 (hk1.cell hAd.blk.lt hmx 2) (hk1.cell hbd.lt hmb2 0) (hk1.cell hbd.lt hmb2 1)
         obtain⟨cv,hcve⟩:∃ cv,cv=KAL us T k j qb qa:=⟨_,rfl⟩
         rw[← hcve] at hlk1 hlk0 hes hcv
         obtain⟨cw,hcwe⟩:∃ cw,cw=cv+1:=⟨_,rfl⟩
         rw[← hcwe] at hes
         have hwr:IntKind.i64.wrap (((cv:Nat):Int)+1)=(cw:Nat):=by rw[IntKind.wrap_i64];omega
         have HCV:=ZB hcve
         have HF0:=ZB hF0
         have HF1:=ZB hF1
         have hA4:=hAd.more hk2' hM2
         have hU4:=KA hUd hk2' (fun y hy hm=>by simp at hm;subst hm;exact XS hUd hAd.told (by simpa using hy))
         rw[← QA HCS] at hA4
         clear hcve hcwe hF hF0 hF1 hbl hka hA hU r0 r1 hM2
         refine ZR (fun W=>W.cell? ⟨x,2,none⟩=some (.map (some mb))∧W.cell? ⟨V2.heap.size,0,none⟩=some (.int .i64 qb)∧W.cell? ⟨V2.heap.size,1,none⟩=some (.int .i64 qa)) 9 (.held 0 (.held 1 (.held 2 (.held 3 (.held 4 (.two 5 (.held 6 (.loud 7 (.held 8 .nil))) 7 (.held 8 (.loud 5 (.held 6 .nil))))))))) (QA HF0) ?_
         simp only[RT.pick,PJ]
         iterate 5 (refine ZK ?_;simp only[Act.put,PU])
         refine wpR_two ?_ ?_
         focus
          refine wpR_loud (by rfl) (fun K hK=>?_)
          go_wp2_with fail
          refine hK _ _ ((QA HF0)) ?_
          clear hK K
          try simp only[Act.put,PU]
          iterate 1 (refine ZK ?_;simp only[Act.put,PU])
          refine wpR_loud (by rfl) (fun K hK=>?_)
          go_wp2_with fail
          refine hK _ _ ((QA HF1)) ?_
          clear hK K
          try simp only[Act.put,PU]
          iterate 1 (refine ZK ?_;simp only[Act.put,PU])
          refine wpR_nil ?_
          go_wp2_with fail
         rotate_left
         focus
          refine wpR_loud (by rfl) (fun K hK=>?_)
          go_wp2_with fail
          refine hK _ _ ((QA HF1)) ?_
          clear hK K
          try simp only[Act.put,PU]
          iterate 1 (refine ZK ?_;simp only[Act.put,PU])
          refine wpR_loud (by rfl) (fun K hK=>?_)
          go_wp2_with fail
          refine hK _ _ ((QA HF1)) ?_
          clear hK K
          try simp only[Act.put,PU]
          iterate 1 (refine ZK ?_;simp only[Act.put,PU])
          refine wpR_nil ?_
          go_wp2_with fail
         all_goals
          go_roundw
          case rel=>exact⟨j+1,N''+1,by omega,by omega,by go_num,hA4,hU4⟩
          case measure=>simp[intOf];omega
       · obtain rfl:j=nT:=by omega
         go_wp2
         go_roundw
         case rel=>
          refine⟨k+1,N'',by omega,by omega,by go_num,L,?_⟩
          have:Zo us T (k+1)=KAL us T k j:=by
           funext b a
           have h9:=QA HTLE
           simp only[Zo,KAL,← QA HUB,if_true]
           rw[← h9,List.take_of_length_le (by rw[← QA HNT];exact Nat.le_refl _)]
          rw[this]
          exact hA
         case measure=>simp[intOf];omega
  · obtain rfl:k=8:=by omega
    go_wp2
    go_ret
    exact⟨rfl,N',hAk⟩
end
end
section
open Go.RowKit Go.Shelf
attribute [local go_sem] Oper.semAt_some
def YQ (B:Nat) (q:PRnd):PRef:=⟨q.1,q.2.toNat,(q.2.toNat-(6+4*pgs B)) / 24,(q.2.toNat-(6+4*pgs B)) % 24⟩
def VD (B:Nat) (I:PImage):List PRef:=(KE I.bl I.ol I.bl.length).map (YQ B)
def YP (B:Nat) (S:PS) (T:Nat→List (Nat×Nat)):List PFlt:=
 (((VN 1 (ZW (VD B S.I)) (VD B S.I)++VN 2 (fun _ r => !Qb S.us r.seg) (VD B S.I))++JK S.lv (VD B S.I) 8)++VN 4 (Qe S.us S.W.pos (Zo S.us T 8)) (VD B S.I))++Zh S.us
theorem Zn (c:Nat) (f:Nat→PRef→Bool) (rs:List PRef):(VN c f rs).length≤rs.length:=Vd _ _ _ _
namespace ALookL
variable {w0 W W' W2:World} {dk:Option Nat} {x s mb bx N:Nat} {R R' L:Value} {rs:List PRef} {f:Nat→Nat→Nat} {fs:List PFlt}
theorem pushR (h:ALookL w0 dk x s mb bx N R rs f L fs W) (q:PRef) (hk:Keep R.ownBlock.toList W W2) (hR:W2.ownsRow w0.heap.size 129 5 R' (rs.length+1) (rs.flatMap XAU++XAU q)) :
 ALookL w0 dk x s mb bx N R' (rs++[q]) f L fs (W2.setCell ⟨x,1,none⟩ R'):=by
 have hx:x∉R.ownBlock.toList:=fun hm=>own_blk_ne h.refs h.blk (by decide) (by simpa using hm)
 have hL:∀ y,L.ownBlock=some y→y∉R.ownBlock.toList:=fun y hy hm=>own_ne h.flt h.refs (by decide) hy (by simpa using hm)
 have hbx:bx∉R.ownBlock.toList:=fun hm=>h.box.not_row (by decide) h.refs (by simpa [eq_comm] using hm)
 have hmb:mb∉R.ownBlock.toList:=XS h.refs h.told
 have hk2:Keep [x] W2 (W2.setCell ⟨x,1,none⟩ R'):=(Keep.refl _ _).setCell (p:=⟨x,1,none⟩) (.inl (by simp)) _
 have hb2:=h.blk.keep hk hx
 have hb3:=hb2.set 1 R'
 simp only[List.setIfInBounds_toArray,List.set_cons_zero,List.set_cons_succ] at hb3
 have hl2:=KA h.flt hk hL
 refine⟨hb3,?_,KA hl2 hk2 (fun y hy hm=>?_),(h.told.keep hk hmb).keep hk2 (by simpa using YS h.blk h.told),JA (JA h.box hk hbx) hk2 (by simpa using h.ne_bx),?_,h.xb,h.mbb,(h.dfr.keep hk (fun k hm e=>by have:=KK h.refs k hm _ e;cases this)).keep hk2 (fun k hm e=>by simp at hm;subst hm;have:=hb2.symm.trans e;cases this)⟩
 · rw[List.length_append,List.length_singleton,List.flatMap_append,List.flatMap_singleton]
   exact KA hR hk2 (fun y hy hm=>by simp at hm;subst hm;exact own_blk_ne hR hb2 (by decide) hy)
 · simp at hm;subst hm
   exact own_blk_ne hl2 hb2 (by decide) hy
 · exact(h.keep.trans hk (fun y hy=>.inr (own_mem h.refs (by simpa using hy)).1)).trans hk2 (fun y hy=>.inr (by simp at hy;subst hy;exact h.xb))
theorem putObj (h:ALookL w0 dk x s mb bx N R rs f L fs W) {k:Nat} {o:Obj} (o':Obj) (hk:w0.heap.size≤k) (hm:mb≠k) (hd:∀ j,dk=some j→j≠k) (hg:W.heap[k]? = some o) (ho:o.isCells=false):ALookL w0 dk x s mb bx N R rs f L fs (W.putObj k o'):=
 ⟨JG o' h.blk hg ho,YG o' h.refs hg ho,YG o' h.flt hg ho,h.told.same (World.putObj_heap_other hm),XC o' h.box hg ho,h.keep.putObj hk _,h.xb,h.mbb,fun j e=>(World.putObj_heap_other (hd j e)).trans (h.dfr j e)⟩
end ALookL
theorem JBD (w:World) (a b c d e:Value):Rd (w.alloc (.cells #[a,b,c,d,e] 129)) (some ⟨w.heap.size,0,none⟩) (1*5) [a,b,c,d,e]:=by
 have hb:=Blk.new w 129 #[a,b,c,d,e]
 refine⟨rfl,fun _=>⟨_,_,rfl,hb.lt,fun j u hu=>?_⟩⟩
 have h:=hb.cell j
 simp only[Nat.zero_add]
 rw[h]
 simpa using hu
def JBG (w0:World) (x s mb bx b1 B M:Nat) (pre:List PRnd) (W:World):Prop:=(∃ R,ALookL w0 none x s mb bx 0 R (pre.map (YQ B)) (fun _ _=>0) (.slice none 0 0) [] W)∧Boxed W b1 34 (.pointer (some ⟨s,0,none⟩))∧M≤W.heap.size
theorem JAu (w:World) (base s d g t p m:Nat) (Fd Ft Fw Fm:List Nat) (L0 L1:Value) (B:Nat) (S:PS) (T:Nat→List (Nat×Nat)) (hS:StoreIs w base s d g t p m Fd Ft Fw Fm L0 L1 B S)
 (hal:∀ W,Keep [] w W→∀ sg,sg<8→Qb S.us sg=true→Calls Tryz.prog 97 #[.pointer (some ⟨d,0,none⟩),.pointer (some ⟨g,0,none⟩),.pointer (some ⟨m,0,none⟩),.int .i64 (sg:Nat)] W fun e w'=>∃ U,e=.returned (.tuple #[U,.int .i64 0])∧w'.ownsRow W.heap.size 135 2 U (T sg).length ((T sg).flatMap blc)∧Keep [] W w')
 (hTl:∀ sg,(T sg).length≤600) (hTb:∀ sg,∀ q∈T sg,q.1≤100000∧q.2≤100000)
 (hoff:S.D.off=false) (hir:∀ x,YAT S.I x→6+4*pgs B≤x.2.toNat∧x.2.toNat<198+4*pgs B) (hb64:B≤64) (hlv:∀ k,S.lv.getD k 0≤1000000) (hbk:∀ r∈VD B S.I,r.seg<8∧r.block≤100000∧r.at_≤100000) (hrl:(VD B S.I).length≤200) :
 Calls Tryz.prog 19 #[.pointer (some ⟨s,0,none⟩)] w fun e w'=>∃ U,e=.returned (.tuple #[U,.int .i64 0])∧w'.ownsRow w.heap.size 59 3 U (YP B S T).length ((YP B S T).flatMap VAT)∧Keep [] w w':=by
 have hDs:=fun W (hk:Keep [] w W)=>callsIn_wide (n:=2).2 (DiskS_is W base s d g t p m Fd Ft Fw Fm L0 L1 B S (hS.keep0 hk))
 have hOf:=fun W (hk:Keep [] w W)=>callsIn_wide (n:=2).2 (KAK W base d Fd S.D (hS.log.disk.keep0 hk))
 rw[hoff] at hOf
 have hIs:=fun W (hk:Keep [] w W)=>callsIn_wide (n:=2).2 (ImageS_is W base s d g t p m Fd Ft Fw Fm L0 L1 B S (hS.keep0 hk))
 have hGs:=fun W (hk:Keep [] w W)=>GeomS_is W base s d g t p m Fd Ft Fw Fm L0 L1 B S (hS.keep0 hk)
 have hGm:=hS.log.geom
 have hImg:=hS.img
 have hBl:=hS.blen
 have HS:=ZB hS
 have HAL:=ZB hal
 have HTL:=ZB hTl
 have HTB:=ZB hTb
 have HIR:=ZB hir
 have HLV:=ZB hlv
 have HBK:=ZB hbk
 have HRL:=ZB hrl
 have HGS:=ZB hGs
 clear hS hal hTl hTb hir hlv hbk hrl hGs hoff
 have hmm:=@run_makeMap Tryz.prog
 refine(callsIn_wide (n:=3)).1 ?_
 refine callsIn_of_wp_marks Tryz.func19 rfl trivial ?_ rfl
 simp only[Tryz.ntmps19,List.size_toArray,List.length_cons,List.length_nil,Nat.reduceAdd,Nat.reduceSub,Array.replicate_succ,Array.replicate_zero,List.push_toArray,List.append_toArray,List.nil_append,List.cons_append]
 obtain⟨w1,hw1⟩:∃ x,x=w.alloc (.cells #[.pointer (some ⟨s,0,none⟩)] 34):=⟨_,rfl⟩
 have s1:w1.heap.size=w.heap.size+1:=by rw[hw1,World.size_alloc]
 have k1:Keep [] w w1:=by rw[hw1];exact(Keep.refl _ _).alloc _
 have q1:Boxed w1 w.heap.size 34 (.pointer (some ⟨s,0,none⟩)):=by rw[hw1];exact Boxed.new w _ _
 have c1:=q1.cell
 gi_wp2_with (first
  | (try rw[← hw1]
     refine⟨trivial,?_⟩
     refine(hDs _ k1).mono ?_
     clear hDs
     rintro e w' ⟨rfl,rfl⟩)
  | (try rw[← hw1]
     refine⟨trivial,?_⟩
     refine(hOf _ k1).mono ?_
     clear hOf
     rintro e w' ⟨rfl,rfl⟩))
 try rw[← hw1]
 obtain⟨w2,hw2⟩:∃ x,x=w1.alloc (.map #[] 0):=⟨_,rfl⟩
 obtain⟨w3,hw3⟩:∃ x,x=w2.alloc (.cells #[.pointer (some ⟨s,0,none⟩),.slice none 0 0,.map (some (w.heap.size+1)),.slice none 0 0] 127):=⟨_,rfl⟩
 obtain⟨w4,hw4⟩:∃ x,x=w3.alloc (.cells #[.pointer (some ⟨w.heap.size+1+1,0,none⟩)] 123):=⟨_,rfl⟩
 have s2:w2.heap.size=w.heap.size+1+1:=by rw[hw2,World.size_alloc,s1]
 have s3:w3.heap.size=w.heap.size+1+1+1:=by rw[hw3,World.size_alloc,s2]
 have s4:w4.heap.size=w.heap.size+1+1+1+1:=by rw[hw4,World.size_alloc,s3]
 have k2:Keep [] w1 w2:=by rw[hw2];exact(Keep.refl _ _).alloc _
 have k3:Keep [] w2 w3:=by rw[hw3];exact(Keep.refl _ _).alloc _
 have k4:Keep [] w3 w4:=by rw[hw4];exact(Keep.refl _ _).alloc _
 have kw4:Keep [] w w4:=((k1.trans0 k2).trans0 k3).trans0 k4
 have q4:Boxed w4 w.heap.size 34 (.pointer (some ⟨s,0,none⟩)):=JA q1 ((k2.trans0 k3).trans0 k4) (by simp)
 have hAL:ALookL w none (w.heap.size+1+1) s (w.heap.size+1) (w.heap.size+1+1+1) 0 (.slice none 0 0) [] (fun _ _=>0) (.slice none 0 0) [] w4:=by
  refine⟨?_,World.ownsRow_nil _ _ _ _,World.ownsRow_nil _ _ _ _,?_,?_,kw4,by omega,by omega,fun k e=>by cases e⟩
  · have:=(Blk.new w2 127 #[.pointer (some ⟨s,0,none⟩),.slice none 0 0,.map (some (w.heap.size+1)),.slice none 0 0])
    rw[← hw3,s2] at this
    exact this.keep0 k4
  · have:=MapIs.made w1
    rw[← hw2,s1] at this
    exact(this.keep k3 (by simp)).keep k4 (by simp)
  · have:=Boxed.new w3 123 (.pointer (some ⟨w.heap.size+1+1,0,none⟩))
    rw[← hw4,s3] at this
    exact this
 rw[← hw2,← hw3,← hw4]
 clear hw1 hw2 hw3 hw4
 refine⟨trivial,?_⟩
 refine(hIs _ kw4).mono ?_
 clear hIs
 rintro e w' ⟨rfl,rfl⟩
 gi_wp2_with (refine⟨trivial,?_⟩;refine(VAj _ _ _ rfl).mono ?_;rintro e w' ⟨rfl,rfl⟩)
 obtain⟨w5,hw5⟩:∃ x,x=w4.alloc (.cells #[.pointer (some ⟨m,0,none⟩)] 46):=⟨_,rfl⟩
 rw[← hw5]
 have k5:Keep [] w4 w5:=by rw[hw5];exact(Keep.refl _ _).alloc _
 have s5:w5.heap.size=w.heap.size+1+1+1+1+1:=by rw[hw5,World.size_alloc,s4]
 have bm:Boxed w5 (w.heap.size+1+1+1+1) 46 (.pointer (some ⟨m,0,none⟩)):=by rw[hw5,← s4];exact Boxed.new w4 _ _
 have hseq:=Vr 2 (w.heap.size+1+1+1+1) base m Fm S.I [129,127] (by decide) (by decide) (by decide) (by decide) (by decide) (by decide) (by decide) w5 (hImg.keep0 (kw4.trans0 k5)) bm
 have h0:JBG w (w.heap.size+1+1) s (w.heap.size+1) (w.heap.size+1+1+1) w.heap.size B w5.heap.size [] w5:=⟨⟨_,hAL.keep0 k5⟩,JA q4 k5 (by simp),Nat.le_refl _⟩
 clear q1 q4 k1 k2 k3 k4 hw5 hAL c1 s1 s2 s3
 refine ZU (n:=3) (gf:=145) (lb:=#[.pointer (some ⟨w.heap.size+1+1+1+1,0,none⟩)]) rfl (enters_of Tryz.func145 (by kernel_rfl) rfl)
  (fun xs V k o o' hS hl hg' ho=>hS) hseq (fun _=>rfl) (fun x hx=>by cases hx)
  (JBG w (w.heap.size+1+1) s (w.heap.size+1) (w.heap.size+1+1+1) w.heap.size B w5.heap.size) ?hI ?hIb (fun pre x A B hF hk=>hF) (fun pre x V k o o' hF hl hg' ho=>hF) h0
  (fun x a' V=>a'={ tmps:=#[.pointer (some ⟨s,0,none⟩),.pointer (some ⟨w.heap.size,0,none⟩),.slice none 0 0,.int .i64 0,.pointer (some ⟨w.heap.size+1+1+1,0,none⟩),.int .i64 (x.1:Nat),.int .i64 x.2,undef,undef,undef,undef,.pointer (some ⟨s,0,none⟩),.bool false,.bool false,.pointer (some ⟨s,0,none⟩),.pointer (some ⟨d,0,none⟩),.bool false,.bool false,.pointer (some ⟨s,0,none⟩),.map (some (w.heap.size+1)),.agg #[.pointer (some ⟨s,0,none⟩),.slice none 0 0,.map (some (w.heap.size+1)),.slice none 0 0],.pointer (some ⟨w.heap.size+1+1,0,none⟩),.pointer (some ⟨s,0,none⟩),.pointer (some ⟨m,0,none⟩),.func (.func 145) #[] #[.pointer (some ⟨w.heap.size+1+1+1+1,0,none⟩)],.int .i64 (x.1:Nat),.int .i64 x.2,undef,undef,undef,undef,undef,undef,undef,undef,undef,undef,undef,undef,undef,undef,undef,undef,undef,undef,undef,undef,undef,undef,undef,undef,undef,undef,undef,undef,undef,undef,undef,undef,undef,undef,undef,undef,undef,undef,undef,undef,undef,undef,undef,undef,undef],defers:=[] }) ?hAb ?assign ?body ?done
 case hI=>
  intro xs A V L hA hk hL
  obtain rfl:L=[]:=by
   cases L with
   | nil=>rfl
   | cons y l=>obtain⟨-,cs,t,-,h⟩:=hL y (by simp);cases h
  obtain⟨⟨R,h1⟩,h2,h3⟩:=hA
  exact⟨⟨R,h1.keep0 hk⟩,JA h2 hk (by simp),Nat.le_trans h3 hk.size⟩
 case hIb=>
  intro xs V k o o' hV hl hg' ho
  obtain⟨⟨R,h1⟩,h2,h3⟩:=hV
  exact⟨⟨R,h1.putObj o' (by omega) (by omega) (fun j e=>by cases e) hg' ho⟩,XC o' h2 hg' ho,by rw[World.putObj_size];exact h3⟩
 case hAb=>
  intro x a' V k o o' hV hl hg' ho
  exact hV
 case assign=>
  rintro l' pre ⟨k,z⟩ V K' hI' hF hK
  have HK:=ZB hK
  clear hK hseq h0 bm
  dsimp only[VR]
  gi_wp2
  exact QA HK _ _ (Keep.refl _ _) rfl
 case body=>
  rintro l' pre ⟨k,z⟩ a' V hI' ⟨hF,hpl⟩ rfl
  clear hseq h0 bm
  obtain⟨hz1,hz2⟩:=QA HIR _ hF
  simp only at hz1 hz2
  have hz0:0<z:=hF.1
  obtain⟨zn,rfl⟩:∃ zn:Nat,z=(zn:Nat):=⟨z.toNat,by omega⟩
  simp only[Int.toNat_natCast] at hz1 hz2
  obtain⟨⟨R,hA⟩,hb1,hM⟩:=hI'
  have hcb:=hb1.cell
  have hGs:=callsIn_wide (n:=0).2 (QA HGS V hA.keep)
  have hWh:=callsIn_wide (n:=0).2 (ZY V g B (hGm.keep0 hA.keep) zn hz1 hz2)
  have hmk:YQ B (k,((zn:Nat):Int))=⟨k,zn,(zn-(6+4*pgs B)) / 24,(zn-(6+4*pgs B)) % 24⟩:=by simp[YQ]
  obtain⟨sg,hsg⟩:∃ sg,sg=(zn-(6+4*pgs B)) / 24:=⟨_,rfl⟩
  obtain⟨of,hof⟩:∃ of,of=(zn-(6+4*pgs B)) % 24:=⟨_,rfl⟩
  rw[← hsg,← hof] at hWh hmk
  have hpl2:pre.length≤128:=by omega
  obtain⟨q,hq⟩:∃ q,q=(pre.map (YQ B)):=⟨_,rfl⟩
  have hql:q.length≤128:=by rw[hq,List.length_map];exact hpl2
  rw[← hq] at hA
  have HQ:=ZB hq
  have HMK:=ZB hmk
  clear hq hmk hsg hof hz1 hz2 hF hpl hpl2
  gi_wp2_with (first
   | (go_at_call 20;refine⟨trivial,?_⟩;refine hGs.mono ?_;clear hGs;rintro e w' ⟨rfl,rfl⟩)
   | (refine⟨trivial,?_⟩;refine hGs.mono ?_;clear hGs;rintro e w' ⟨rfl,rfl⟩)
   | (refine⟨trivial,?_⟩;refine hWh.mono ?_;clear hWh;rintro e w2 ⟨rfl,hk2⟩))
  have hA2:=hA.keep0 hk2
  have hRs:w.heap.size≤w2.heap.size:=hA2.keep.size
  have HB1:=ZB (JA hb1 hk2 (by simp))
  have HM:=ZB (Nat.le_trans hM hk2.size)
  have HK2:=ZB hk2
  clear hA hcb hb1 hM hk2
  have hx1:=fun W (hW:ALookL w none (w.heap.size+1+1) s (w.heap.size+1) (w.heap.size+1+1+1) 0 R q (fun _ _=>0) (.slice none 0 0) [] W)=>And.intro hW.box.cell (JC hW.blk).2.1
  have HX1:=ZB hx1
  clear hx1
  refine ZI (fun W=>W.cell? ⟨w.heap.size+1+1+1,0,none⟩=some (.pointer (some ⟨w.heap.size+1+1,0,none⟩))∧W.cell? ⟨w.heap.size+1+1,1,none⟩=some R) 13 [[0,1,2,3,4,5,6,7,8,9,10],[11],[12]] (QA HX1 _ (hA2.keep0 (Keep.refl _ _).drew)) ?_
  simp only[PI]
  iterate 11 (refine ZH ?_;simp only[Act.put,PU])
  refine XB (by rfl) (fun K hK=>?_)
  go_wp2_with fail
  have hkb:Keep [] w2 (w2.alloc (.cells #[.int .i64 (k:Nat),.int .i64 (zn:Nat),.int .i64 (sg:Nat),.int .i64 (of:Nat),.bool true] 129)).drew:=((Keep.refl [] w2).alloc _).drew
  have hA3:=hA2.keep0 hkb
  refine hK _ _ ((QA HX1 _ hA3)) ?_
  clear hK K
  try simp only[Act.put,PU]
  refine XB (by rfl) (fun K hK=>?_)
  obtain⟨RA,rc,rfl,_⟩:=QB hA3.refs
  refine elemRef.wp1_app (.tmp 39) (.tmp 46) (by rfl) w.heap.size (.slice RA q.length rc) q.length (q.flatMap XAU) (by rfl) hA3.refs ⟨w2.heap.size,0,none⟩ 1 1 [.int .i64 (k:Nat),.int .i64 (zn:Nat),.int .i64 (sg:Nat),.int .i64 (of:Nat),.bool true] (by rfl) ((JBD w2 _ _ _ _ _).keep (Keep.refl _ _).drew) (by simp[Value.oneCell']) (by omega) (by omega) (Nat.le_trans hRs hkb.size) ?_
  intro R' w3 hR3 hk3 hat _
  have hnx:w.heap.size+1+1∉(Value.slice RA q.length rc).ownBlock.toList:=fun hm=>own_blk_ne hA3.refs hA3.blk (by decide) (by simpa using hm)
  have hnb:w.heap.size+1+1+1∉(Value.slice RA q.length rc).ownBlock.toList:=fun hm=>hA3.box.not_row (by decide) hA3.refs (by simpa [eq_comm] using hm)
  have hx3:=hA3.blk.keep hk3 hnx
  have hb3:=JA hA3.box hk3 hnb
  refine hK _ _ (⟨hb3.cell,(JC hx3).2.1⟩) ?_
  clear hK K
  try simp only[Act.put,PU]
  refine JB ?_
  have f1:=hx3.frozen 1
  have hxl:=hx3.lt
  obtain⟨d0,d1,d2,d3⟩:=JC hx3
  obtain⟨VA,vc,rfl,_⟩:=QB hR3
  go_wp2_with fail
  have hp:=hA3.pushR ⟨k,zn,sg,of⟩ hk3 hR3
  have hkS:Keep [w.heap.size+1+1] w3 (w3.setCell ⟨w.heap.size+1+1,1,none⟩ (.slice VA (q.length+1) vc)):=(Keep.refl _ _).setCell (p:=⟨w.heap.size+1+1,1,none⟩) (.inl (by simp)) _
  have hnb1:w.heap.size∉(Value.slice RA q.length rc).ownBlock.toList:=fun hm=>((JA (QA HB1) hkb (by simp)).not_row (by decide) hA3.refs (by simpa [eq_comm] using hm))
  have hKT3:KeepT [129,127] (w2.alloc (.cells #[.int .i64 (k:Nat),.int .i64 (zn:Nat),.int .i64 (sg:Nat),.int .i64 (of:Nat),.bool true] 129)).drew w3:=KeepT.ofKeep hk3 (fun y hy=>by
   rcases hA3.refs.2 with⟨h1,_⟩ | ⟨b',cap,cur,h1,_,hb',_⟩
   · rw[h1] at hy;simp[Value.ownBlock] at hy
   · rw[h1] at hy
     obtain rfl:b'=y:=by simpa [Value.ownBlock,eq_comm] using hy
     exact⟨_,_,hb',by decide⟩)
  have hKT4:KeepT [129,127] w3 (w3.setCell ⟨w.heap.size+1+1,1,none⟩ (.slice VA (q.length+1) vc)):=KeepT.ofKeep hkS (fun y hy=>by simp at hy;subst hy;exact⟨_,_,hx3,by decide⟩)
  refine⟨(((KeepT.of0 (QA HK2)).trans (KeepT.of0 hkb)).trans hKT3).trans hKT4,⟨.slice VA (q.length+1) vc,?_⟩,JA (JA (JA (QA HB1) hkb (by simp)) hk3 hnb1) hkS (by simp;omega),Nat.le_trans (Nat.le_trans (Nat.le_trans (QA HM) hkb.size) hk3.size) hkS.size⟩
  rw[List.map_append,List.map_cons,List.map_nil,← QA HQ,QA HMK]
  exact hp
 case done=>
  intro D' xs V hD' hS hI' hdef
  obtain⟨⟨R,hA0⟩,hb1,hM⟩:=hI'
  rw[hS] at hA0
  have hA:ALookL w (some D') (w.heap.size+1+1) s (w.heap.size+1) (w.heap.size+1+1+1) 0 R (VD B S.I) (fun _ _=>0) (.slice none 0 0) [] V:=⟨hA0.blk,hA0.refs,hA0.flt,hA0.told,hA0.box,hA0.keep,hA0.xb,hA0.mbb,fun k e=>by cases e;exact hdef⟩
  have haf:YP B S T=(((VN 1 (ZW (VD B S.I)) (VD B S.I)++VN 2 (fun _ r => !Qb S.us r.seg) (VD B S.I))++JK S.lv (VD B S.I) 8)++VN 4 (Qe S.us S.W.pos (Zo S.us T 8)) (VD B S.I))++Zh S.us:=rfl
  have hbk:=QA HBK
  have hrl:=QA HRL
  have hlv:=QA HLV
  have hSS:=QA HS
  obtain⟨rs,hrs⟩:∃ rs,rs=VD B S.I:=⟨_,rfl⟩
  rw[← hrs] at hA haf hbk hrl
  have hT1:=callsIn_wide (n:=2).2 (VAk w V (some D') (w.heap.size+1+1) s (w.heap.size+1) (w.heap.size+1+1+1) R rs [] base d g t p m Fd Ft Fw Fm L0 L1 B S T ⟨_,hA⟩ hSS (QA HAL) (QA HTL) (QA HTB))
  have hcb:=hA.box.cell
  obtain⟨tf,htf⟩:∃ tf,tf=Zo S.us T 8:=⟨_,rfl⟩
  rw[← htf] at hT1 haf
  have hE1:=fun N1 v (h:JI w (some D') (w.heap.size+1+1) s (w.heap.size+1) (w.heap.size+1+1+1) N1 R rs tf [] v)=>callsIn_wide (n:=2).2 (JAl w v (some D') _ s _ (w.heap.size+1+1+1) N1 R rs tf [] 1 (.pointer (some ⟨w.heap.size+1+1+1,0,none⟩)) (ZW rs) h hrl (by simp) (fun W fs' i r hW hr=>KAl w W (some D') _ s _ _ N1 R rs tf fs' i r hW hrl (List.getElem?_eq_some_iff.1 hr).1))
  have hE2:=fun N1 v fs (hl:fs.length≤1000) (h:JI w (some D') (w.heap.size+1+1) s (w.heap.size+1) (w.heap.size+1+1+1) N1 R rs tf fs v)=>callsIn_wide (n:=2).2 (VAp w v (some D') _ s _ (w.heap.size+1+1+1) N1 R rs tf fs 2 (.pointer (some ⟨w.heap.size+1+1+1,0,none⟩)) (fun _ r => !Qb S.us r.seg) h hrl hl (fun W fs' i r hW hr=>XAy w W (some D') _ s _ _ N1 R rs tf fs' base d g t p m Fd Ft Fw Fm L0 L1 B S i r hW hSS (hbk r (List.mem_of_getElem? hr)).1))
  have hE4:=fun N1 v fs (hl:fs.length≤1000) (h:JI w (some D') (w.heap.size+1+1) s (w.heap.size+1) (w.heap.size+1+1+1) N1 R rs tf fs v)=>callsIn_wide (n:=2).2 (JAp w v (some D') _ s _ (w.heap.size+1+1+1) N1 R rs tf fs 4 (.pointer (some ⟨w.heap.size+1+1+1,0,none⟩)) (Qe S.us S.W.pos tf) h hrl hl (fun W fs' i r hW hr=>QAl w W (some D') _ s _ _ N1 R rs tf fs' base d g t p m Fd Ft Fw Fm L0 L1 B S i r hW hSS (hbk r (List.mem_of_getElem? hr)).1 (hbk r (List.mem_of_getElem? hr)).2.1 (hbk r (List.mem_of_getElem? hr)).2.2))
  have hE3:=fun N1 v fs (hl:fs.length≤1000) (h:JI w (some D') (w.heap.size+1+1) s (w.heap.size+1) (w.heap.size+1+1+1) N1 R rs tf fs v)=>callsIn_wide (n:=2).2 (VAU w v (some D') _ s _ _ N1 R rs tf fs base d g t p m Fd Ft Fw Fm L0 L1 B S h hSS hrl hl hlv)
  have hE5:=fun N1 v fs (hl:fs.length≤1000) (h:JI w (some D') (w.heap.size+1+1) s (w.heap.size+1) (w.heap.size+1+1+1) N1 R rs tf fs v)=>callsIn_wide (n:=2).2 (KAr w v (some D') _ s _ _ N1 R rs tf fs base d g t p m Fd Ft Fw Fm L0 L1 B S h hSS hl)
  have l1:(VN 1 (ZW rs) rs).length≤200:=Nat.le_trans (Zn _ _ _) hrl
  have l2:(VN 2 (fun _ r => !Qb S.us r.seg) rs).length≤200:=Nat.le_trans (Zn _ _ _) hrl
  have l3:(JK S.lv rs 8).length≤8:=Zr _ _ _
  have l4:(VN 4 (Qe S.us S.W.pos tf) rs).length≤200:=Nat.le_trans (Zn _ _ _) hrl
  obtain⟨F1,hF1⟩:∃ F,F=VN 1 (ZW rs) rs:=⟨_,rfl⟩
  obtain⟨F2,hF2⟩:∃ F,F=VN 2 (fun _ r => !Qb S.us r.seg) rs:=⟨_,rfl⟩
  obtain⟨F3,hF3⟩:∃ F,F=JK S.lv rs 8:=⟨_,rfl⟩
  obtain⟨F4,hF4⟩:∃ F,F=VN 4 (Qe S.us S.W.pos tf) rs:=⟨_,rfl⟩
  obtain⟨F5,hF5⟩:∃ F,F=Zh S.us:=⟨_,rfl⟩
  rw[← hF1] at hE1 l1 haf
  rw[← hF2] at hE2 l2 haf
  rw[← hF3] at hE3 l3 haf
  rw[← hF4] at hE4 l4 haf
  rw[← hF5] at hE5 haf
  have HE1:=ZB hE1
  have HE2:=ZB hE2
  have HE3:=ZB hE3
  have HE4:=ZB hE4
  have HE5:=ZB hE5
  have HAF:=ZB haf
  clear hE1 hE2 hE3 hE4 hE5 haf hF1 hF2 hF3 hF4 hF5 htf hrs hbk hrl hlv hSS hA0 hA hseq h0 bm hM hb1 hdef
  gi_wp2_with (
   refine⟨trivial,?_⟩
   refine hT1.mono ?_
   clear hT1
   rintro e v1 ⟨rfl,N1,hA1⟩
   have hcb1:=hA1.choose_spec.box.cell)
  clear hcb
  gi_wp2_with (
   refine⟨trivial,?_⟩
   refine(QA HE1 N1 v1 hA1).mono ?_
   clear hA1
   rintro e v2 ⟨rfl,hA2⟩
   have hcb2:=hA2.choose_spec.box.cell)
  clear hcb1
  gi_wp2_with (
   refine⟨trivial,?_⟩
   refine(QA HE2 N1 v2 _ (by simp;omega) hA2).mono ?_
   clear hA2
   rintro e v3 ⟨rfl,hA3⟩
   have hcb3:=hA3.choose_spec.box.cell)
  clear hcb2
  gi_wp2_with (
   refine⟨trivial,?_⟩
   refine(QA HE3 N1 v3 _ (by simp;omega) hA3).mono ?_
   clear hA3
   rintro e v4 ⟨rfl,hA4⟩
   have hcb4:=hA4.choose_spec.box.cell)
  clear hcb3
  gi_wp2_with (
   refine⟨trivial,?_⟩
   refine(QA HE4 N1 v4 _ (by simp;omega) hA4).mono ?_
   clear hA4
   rintro e v5 ⟨rfl,hA5⟩
   have hcb5:=hA5.choose_spec.box.cell)
  clear hcb4
  gi_wp2_with (
   refine⟨trivial,?_⟩
   refine(QA HE5 N1 v5 _ (by simp;omega) hA5).mono ?_
   clear hA5
   rintro e v6 ⟨rfl,L6,hA6⟩
   have hcb6:=hA6.box.cell
   have hc3:=(JC hA6.blk).2.2.2)
  have hdef2:=hA6.dfr D' rfl
  refine⟨by simp,.inl ⟨_,_,rfl,run_takeDeferred hdef2,?_⟩⟩
  refine⟨.tuple #[L6,.int .i64 0],?_,?_⟩
  · simp[results,Tryz.results19,go_sem]
  · refine⟨L6,rfl,?_,hA6.keep.putObj (g:=D') (by omega) (.deferred none)⟩
    rw[QA HAF]
    exact ownsRow_putObj (by simpa only[List.nil_append,List.append_assoc] using hA6.flt) (.deferred none) hdef2 rfl
end
section
open Go.RowKit
theorem XM {bl ol:List Int} {k b:Nat} {z:Int} (h:(b,z)∈KE bl ol k):b<k∧0<z∧(bl.getD b 0=z∨ol.getD b 0=z):=by
 induction k with
 | zero=>simp[KE] at h
 | succ k ih=>
   simp only[KE,List.mem_append] at h
   rcases h with h | h | h
   · obtain⟨h1,h2⟩:=ih h;exact⟨by omega,h2⟩
   · split at h
     · rename_i hp
       simp at h
       obtain⟨rfl,rfl⟩:=h
       exact⟨by omega,hp,.inl rfl⟩
     · simp at h
   · split at h
     · rename_i hp
       simp at h
       obtain⟨rfl,rfl⟩:=h
       exact⟨by omega,hp,.inr rfl⟩
     · simp at h
theorem Yl {I:PImage} (hd:Dist I) (k:Nat):(KE I.bl I.ol k).Pairwise (fun p q=>p.2≠q.2):=by
 induction k with
 | zero=>simp[KE]
 | succ k ih=>
   simp only[KE]
   refine List.pairwise_append.2 ⟨ih,?_,?_⟩
   · split
     · rename_i h1
       split
       · simpa using hd.bo k k h1
       · simp
     · split <;> simp
   · rintro⟨b,z⟩ hp ⟨c,y⟩ hq
     obtain⟨hb,hz,hr⟩:=XM hp
     simp only
     rcases List.mem_append.1 hq with hq | hq
     · split at hq
       · rename_i h1
         simp at hq
         obtain⟨rfl,rfl⟩:=hq
         rintro rfl
         rcases hr with hr | hr
         · have:=hd.bb b c (by omega) hr;omega
         · exact hd.bo c b h1 hr.symm
       · simp at hq
     · split at hq
       · rename_i h1
         simp at hq
         obtain⟨rfl,rfl⟩:=hq
         rintro rfl
         rcases hr with hr | hr
         · exact hd.bo b c (by omega) hr
         · have:=hd.oo b c (by omega) hr;omega
       · simp at hq
theorem QAV (c:Nat) (f:Nat→PRef→Bool) (rs:List PRef) (k:Nat) (h:∀ i r,i<k→rs[i]? = some r→f i r=false):YK c f rs k=[]:=by
 induction k with
 | zero=>rfl
 | succ k ih=>
   simp only[YK]
   rw[ih (fun i r hi=>h i r (by omega))]
   cases hr:rs[k]? with
   | none=>rfl
   | some r=>simp[h k r (by omega) hr]
theorem Zk (c:Nat) (f:Nat→PRef→Bool) (rs:List PRef) (h:∀ i r,rs[i]? = some r→f i r=false):VN c f rs=[]:=QAV _ _ _ _ (fun i r _=>h i r)
theorem KAN (lv:List Nat) (rs:List PRef) (k:Nat) (h:∀ s,s<k→lv.getD s 0=rs.countP (fun r=>r.seg == s)):JK lv rs k=[]:=by
 induction k with
 | zero=>rfl
 | succ k ih=>
   simp only[JK]
   rw[ih (fun s hs=>h s (by omega)),if_neg (by rw[h k (by omega)];simp)]
   rfl
theorem QAX (B s:Nat) (z:Int):JJ B s z=(decide (0<z) && ((z.toNat-(6+4*pgs B)) / 24 == s)):=rfl
theorem Jx (B s:Nat) (bl ol:List Int) (hl:bl.length=ol.length) (k:Nat) (hk:k≤bl.length) :
 ((KE bl ol k).map (YQ B)).countP (fun r=>r.seg == s)=(bl.take k).countP (JJ B s)+(ol.take k).countP (JJ B s):=by
 induction k with
 | zero=>simp[KE]
 | succ k ih=>
   have h1:=XP (JJ B s) bl k (by omega)
   have h2:=XP (JJ B s) ol k (by omega)
   have h3:=ih (by omega)
   rw[h1,h2]
   simp only[KE,List.map_append,List.countP_append,h3]
   rw[JH (l:=bl) (by omega),JH (l:=ol) (by omega)]
   have hb:∀ z:Int,((if 0<z then [(k,z)] else []).map (YQ B)).countP (fun r=>r.seg == s)=if JJ B s z then 1 else 0:=fun z=>by
    rw[QAX]
    by_cases hz:0<z
    · simp only[hz,if_true,List.map_cons,List.map_nil,List.countP_cons,List.countP_nil,YQ,decide_true,Bool.true_and]
      simp
    · simp[hz]
   rw[hb,hb]
   omega
def XAJ (B:Nat) (S:PS) (T:Nat→List (Nat×Nat)):Prop:=
 ∀ b,b<B→∀ a:Nat,0<a→JAW S.I b a→Ky S.W.pos (YQ B (b,(a:Nat)))=true∨∃ s,s<8∧Qb S.us s=true∧(b,a)∈T s
theorem ZAo (us:List (Nat×Nat)) (T:Nat→List (Nat×Nat)) (k s b a:Nat) (hs:s<k) (hu:Qb us s=true) (h:(b,a)∈T s):Zo us T k b a≠0:=by
 induction k with
 | zero=>omega
 | succ k ih=>
   simp only[Zo]
   by_cases e:s=k
   · subst e
     rw[if_pos hu]
     have:=List.count_pos_iff.2 h
     omega
   · have:=ih (by omega)
     omega
theorem KU {B:Nat} {I:PImage} {r:PRef} (h:r∈VD B I):∃ b z,r=YQ B (b,z)∧b<I.bl.length∧0<z∧(I.bl.getD b 0=z∨I.ol.getD b 0=z):=by
 obtain⟨⟨b,z⟩,hm,rfl⟩:=List.mem_map.1 h
 exact⟨b,z,rfl,XM hm⟩
theorem VAg {us:List (Nat×Nat)} {s:Nat} (h:VZ us s) (hs:s<8):Kk us=1:=by
 obtain⟨h1,-,h3⟩:=h
 unfold Kk
 have:∀ k,k≤us.length→(us.take k).countP (fun u=>u.1 == 1)=if s<k then 1 else 0:=fun k hk=>by
  induction k with
  | zero=>simp
  | succ k ih=>
    rw[XP _ _ _ (by omega),ih (by omega)]
    by_cases e:k=s
    · subst e
      rw[if_neg (by omega),if_pos (by simpa using(h3 k (by omega)).2 rfl),if_pos (by omega)]
    · have hne:us[k].1≠1:=fun h=>e ((h3 k (by omega)).1 h)
      have hb:(us[k].1 == 1)=false:=by simpa using hne
      rw[hb]
      by_cases e2:s<k
      · rw[if_pos e2,if_pos (show s<k+1 by omega)];simp
      · rw[if_neg e2,if_neg (show ¬ s<k+1 by omega)];simp
 have h8:=this 8 (by omega)
 rw[if_pos hs,List.take_of_length_le (by omega)] at h8
 exact h8
theorem YAS {B:Nat} {S:PS} {T:Nat→List (Nat×Nat)} {k j:Nat} (hg:Good B S k j) (hx:Ext B S) (hd:Dist S.I) (hT:XAJ B S T):YP B S T=[]:=by
 have hlen:S.I.bl.length=S.I.ol.length:=by rw[hg.bl,hg.ol]
 have hr:∀ r∈VD B S.I,Qb S.us r.seg=true:=fun r hm=>by
  obtain⟨b,z,rfl,hb,hz,h⟩:=KU hm
  have hok:RefOk B S z:=by
   rcases h with h | h
   · rw[JH hb] at h
     exact h ▸ hg.brefs _ (List.getElem_mem hb)
   · rw[JH (by omega)] at h
     rcases hg.orefs _ (List.getElem_mem (show b<S.I.ol.length by omega)) with h1 | h1
     · omega
     · exact h ▸ h1
  rcases hok with rfl | ⟨_,hl⟩
  · omega
  · simpa [Qb,YQ] using hl.used
 unfold YP
 rw[Zk,Zk,KAN,Zk]
 · simp[Zh,VAg hx.segs hg.cap.seg]
 · intro i r hi
   have hm:=List.mem_of_getElem? hi
   obtain⟨b,z,rfl,hb,hz,h⟩:=KU hm
   obtain⟨a,rfl⟩:∃ a:Nat,z=(a:Nat):=⟨z.toNat,by omega⟩
   unfold Qe
   rcases hT b (by rw[← hg.bl];exact hb) a (by omega) h with h1 | ⟨s,hs,hu,h1⟩
   · rw[h1];simp
   · have:=ZAo S.us T 8 s b a hs hu h1
     have e:Zo S.us T 8 (YQ B (b,(a:Nat))).block (YQ B (b,(a:Nat))).at_=Zo S.us T 8 b a:=by simp[YQ]
     rw[e,decide_eq_false this];simp
 · intro s hs
   unfold VD
   rw[Jx B s _ _ hlen _ (Nat.le_refl _),List.take_of_length_le (Nat.le_refl _),List.take_of_length_le (by omega),hx.liv.live s hs]
   rfl
 · intro i r hi
   rw[hr r (List.mem_of_getElem? hi)];rfl
 · intro i r hi
   unfold ZW
   rw[List.any_eq_false]
   intro y hy
   obtain⟨jj,hj,hy'⟩:=List.mem_take_iff_getElem.1 hy
   have hp:=List.pairwise_iff_getElem.1 (Yl hd S.I.bl.length)
   have hil:=(List.getElem?_eq_some_iff.1 hi)
   obtain⟨hi1,hi2⟩:=hil
   unfold VD at hi1 hi2 hy'
   rw[List.length_map] at hi1
   have hne:=hp jj i (by omega) hi1 (by omega)
   rw[List.getElem_map] at hi2 hy'
   have h1:=XM (b:=(KE S.I.bl S.I.ol S.I.bl.length)[i].1) (z:=(KE S.I.bl S.I.ol S.I.bl.length)[i].2) (List.getElem_mem hi1)
   have h2:=XM (b:=((KE S.I.bl S.I.ol S.I.bl.length)[jj]'(by omega)).1) (z:=((KE S.I.bl S.I.ol S.I.bl.length)[jj]'(by omega)).2) (List.getElem_mem (show jj<(KE S.I.bl S.I.ol S.I.bl.length).length by omega))
   rw[← hi2,← hy']
   simp only[YQ,beq_iff_eq]
   omega
end
end Go.Proofs.YthgphmfipnjllaaGreat
