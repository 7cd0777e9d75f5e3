/- Lemmas of the proof, with their conditions. -/
import Derived.Test.YthgphmfipnjllaaGreatV41
namespace Go.Proofs.YthgphmfipnjllaaGreat
set_option linter.unusedSimpArgs false
set_option linter.unusedVariables false
set_option maxHeartbeats 8000000
set_option maxRecDepth 40000
section
open Go.RowKit
theorem leq {a b c:Nat} (h:a≤b) (e:c=b):a≤c:=e ▸ h
theorem JAC {w0 V:World} (k:Keep [] w0 V) (cs:Array Value) (t:TypeId):∃ V' g,Blk V' g t cs∧Keep [] V V'∧w0.heap.size≤g∧V.alloc (.cells cs t)=V'∧V.heap.size=g:=⟨_,_,Blk.new _ _ _,(Keep.refl _ _).alloc _,k.size,rfl,rfl⟩
theorem RDkNew.cell0 {w:World} {base d n:Nat} {F:List Nat} (h:RDkNew w base d F n) (h0:0<n):∃ g c,∀ W,Keep [] w W→W.cell? ⟨d,0,none⟩=some (.slice (some ⟨g,0,none⟩) n c):=by
 obtain⟨S,U,R,h1,h2,h3,h4,h5,h6⟩:=h
 obtain⟨g,c,hS,_⟩:=QD h1.safe (by omega)
 refine⟨g,c,fun W hk=>?_⟩
 rw[← h2,← hS]
 exact(JF (h1.blk.keep0 hk)).1
theorem RDkNew.lt {w:World} {base d n:Nat} {F:List Nat} (h:RDkNew w base d F n):∀ x∈F,x<w.heap.size:=by
 obtain⟨S,U,R,h1,_⟩:=h
 exact h1.lt
theorem RDkNew.laid {w w0:World} {base d n:Nat} {F:List Nat} (h:RDkNew w base d F n) (hk:Keep [] w w0) {N:List Nat} (hN:∀ b∈N,w.heap.size≤b∧b<w0.heap.size):Laid w0 w0 base d F n 0 N:=by
 obtain⟨R,h1,h2,h3,h4⟩:=(h.keep0 hk).at_
 have hlt:=h.lt
 exact⟨F,R,h1,h2,by omega,by rw[h3];simp,Keep.refl _ _,Grow.refl _ _,fun b hb=>⟨fun hm=>by have:=hlt b hm;have:=(hN b hb).1;omega,(hN b hb).2⟩⟩
theorem ZAS (w:World) (base d n B:Nat) (F:List Nat) (hB1:1≤B) (hB2:B≤64) (hn:n=198+4*pgs B) (h:RDkNew w base d F n) (hbase:base≤w.heap.size) :
 Calls Tryz.prog 131 #[.pointer (some ⟨d,0,none⟩),VV B,.int .i64 1] w fun e w'=>∃ A1 q1 A2 q2 G,e=.returned (.tuple #[KAt B A1 q1 A2 q2 G,.int .i64 0])∧SegsR w' G∧Keep F w w':=by
 have hpb:=KC hB1 hB2
 have hCM:=fun W=>ConfigMayR_is W B hB1 hB2
 have hWi:∀ W,Calls Tryz.prog 226 #[.int .i64 1,.int .i64 0,.int .i64 2147483647] W fun e w'=>e=.returned (.bool true)∧W=w':=fun W=>ZE 1 0 2147483647 true (by simp) W
 have hSe:=fun W=>SectorsR_is W B hB1 hB2
 have hPa:=fun W=>PagesR_is W B hB1 hB2
 have hNI:=fun W=>JAB B hB1 hB2 W
 have hPt:=fun W (o:Bool) (p:Nat) (hp:p<pgs B)=>KAO W B hB1 hB2 o p hp
 have hRB:=fun W A1 q1 A2 q2 G (r1:Rd W A1 (pgs B) (zv (pgs B))) (r2:Rd W A2 (pgs B) (zv (pgs B))) (r3:SegsR W G)=>KAA W B hB1 hB2 A1 q1 A2 q2 G r1 r2 r3
 have hRA0:∀ W,Calls Tryz.prog 164 #[VV B,.int .i64 0] W fun e w'=>e=.returned (.int .i64 2)∧Keep [] W w':=fun W=>Jh W B 0 (by omega)
 have hRA1:∀ W,Calls Tryz.prog 164 #[VV B,.int .i64 1] W fun e w'=>e=.returned (.int .i64 4)∧Keep [] W w':=fun W=>Jh W B 1 (by omega)
 have hSB:=fun W=>SuperBytesR W B hB1 hB2
 rw[← hn] at hSe
 obtain⟨sg,sc,hd0⟩:=h.cell0 (by omega)
 have hRd:=fun W (hk:Keep [] w W) k (hk':k<n)=>JAa W base d n F (h.keep0 hk) k hk'
 have hFlt:=h.lt
 have hlaid:=fun w0 (hk:Keep [] w w0) N hN=>h.laid (w0:=w0) hk (N:=N) hN
 have hImg:∀ (w0:World) (m:Nat) (Fi:List Nat) W,ImgAt W w0.heap.size m Fi B→∀ (o:Bool) (p:Nat),p<pgs B→Calls Tryz.prog 236 #[.pointer (some ⟨m,0,none⟩),.bool o,.int .i64 (p:Nat)] W fun e w'=>∃ A n c,e=.returned (.slice A n c)∧n≤15∧Rd w' A n (List.replicate n (.int .i64 (vOf o)))∧Keep [] W w':=fun w0 m Fi W hi o p hp=>QBD W _ m Fi B hB1 hB2 hi o p hp
 clear h
 obtain⟨P,hPg⟩:∃ P,P=pgs B:=⟨_,rfl⟩
 unfold KAt at hRB ⊢
 unfold VV at *
 rw[← hPg] at hPa hPt hRB hImg hn hpb ⊢
 have HPG:=ZB hPg
 clear hPg
 have hbcA:Blk (((w.alloc (.cells #[.int .i64 B,.int .i64 8,.int .i64 24] 27)).alloc (.cells #[.int .i64 0,.int .i64 0,.int .i64 0,.int .i64 0,.int .i64 0,.int .i64 0,.int .i64 0,.int .i64 0,.int .i64 0,.int .i64 0,.int .i64 0,.slice none 0 0,.slice none 0 0,.slice none 0 0] 185)).alloc (.cells #[.int .i64 0,.int .i64 0,.int .i64 0,.int .i64 0,.int .i64 0,.int .i64 0,.int .i64 0,.int .i64 0,.int .i64 0,.int .i64 0,.int .i64 0,.slice none 0 0,.slice none 0 0,.slice none 0 0] 185)) w.heap.size 27 #[.int .i64 B,.int .i64 8,.int .i64 24]:=((Blk.new w 27 #[.int .i64 B,.int .i64 8,.int .i64 24]).keep0 ((Keep.refl _ _).alloc _)).keep0 ((Keep.refl _ _).alloc _)
 have hb6A:Blk (((w.alloc (.cells #[.int .i64 B,.int .i64 8,.int .i64 24] 27)).alloc (.cells #[.int .i64 0,.int .i64 0,.int .i64 0,.int .i64 0,.int .i64 0,.int .i64 0,.int .i64 0,.int .i64 0,.int .i64 0,.int .i64 0,.int .i64 0,.slice none 0 0,.slice none 0 0,.slice none 0 0] 185)).alloc (.cells #[.int .i64 0,.int .i64 0,.int .i64 0,.int .i64 0,.int .i64 0,.int .i64 0,.int .i64 0,.int .i64 0,.int .i64 0,.int .i64 0,.int .i64 0,.slice none 0 0,.slice none 0 0,.slice none 0 0] 185)) (w.heap.size+1) 185 #[.int .i64 0,.int .i64 0,.int .i64 0,.int .i64 0,.int .i64 0,.int .i64 0,.int .i64 0,.int .i64 0,.int .i64 0,.int .i64 0,.int .i64 0,.slice none 0 0,.slice none 0 0,.slice none 0 0]:=by
  have:=(Blk.new (w.alloc (.cells #[.int .i64 B,.int .i64 8,.int .i64 24] 27)) 185 #[.int .i64 0,.int .i64 0,.int .i64 0,.int .i64 0,.int .i64 0,.int .i64 0,.int .i64 0,.int .i64 0,.int .i64 0,.int .i64 0,.int .i64 0,.slice none 0 0,.slice none 0 0,.slice none 0 0]).keep0 ((Keep.refl _ _).alloc (.cells #[.int .i64 0,.int .i64 0,.int .i64 0,.int .i64 0,.int .i64 0,.int .i64 0,.int .i64 0,.int .i64 0,.int .i64 0,.int .i64 0,.int .i64 0,.slice none 0 0,.slice none 0 0,.slice none 0 0] 185))
  rwa [show (w.alloc (.cells #[.int .i64 B,.int .i64 8,.int .i64 24] 27)).heap.size=w.heap.size+1 by simp] at this
 have hkA:Keep [] w (((w.alloc (.cells #[.int .i64 B,.int .i64 8,.int .i64 24] 27)).alloc (.cells #[.int .i64 0,.int .i64 0,.int .i64 0,.int .i64 0,.int .i64 0,.int .i64 0,.int .i64 0,.int .i64 0,.int .i64 0,.int .i64 0,.int .i64 0,.slice none 0 0,.slice none 0 0,.slice none 0 0] 185)).alloc (.cells #[.int .i64 0,.int .i64 0,.int .i64 0,.int .i64 0,.int .i64 0,.int .i64 0,.int .i64 0,.int .i64 0,.int .i64 0,.int .i64 0,.int .i64 0,.slice none 0 0,.slice none 0 0,.slice none 0 0] 185)):=(((Keep.refl _ _).alloc _).alloc _).alloc _
 have hsA:(((w.alloc (.cells #[.int .i64 B,.int .i64 8,.int .i64 24] 27)).alloc (.cells #[.int .i64 0,.int .i64 0,.int .i64 0,.int .i64 0,.int .i64 0,.int .i64 0,.int .i64 0,.int .i64 0,.int .i64 0,.int .i64 0,.int .i64 0,.slice none 0 0,.slice none 0 0,.slice none 0 0] 185)).alloc (.cells #[.int .i64 0,.int .i64 0,.int .i64 0,.int .i64 0,.int .i64 0,.int .i64 0,.int .i64 0,.int .i64 0,.int .i64 0,.int .i64 0,.int .i64 0,.slice none 0 0,.slice none 0 0,.slice none 0 0] 185)).heap.size=w.heap.size+3:=by simp
 have hd0A:=hd0 _ hkA
 obtain⟨c0,c1,c2⟩:=QC hbcA
 go_enter Tryz.func131,Tryz.ntmps131
 go_wp2_with fail
 generalize (((w.alloc (.cells #[.int .i64 B,.int .i64 8,.int .i64 24] 27)).alloc (.cells #[.int .i64 0,.int .i64 0,.int .i64 0,.int .i64 0,.int .i64 0,.int .i64 0,.int .i64 0,.int .i64 0,.int .i64 0,.int .i64 0,.int .i64 0,.slice none 0 0,.slice none 0 0,.slice none 0 0] 185)).alloc (.cells #[.int .i64 0,.int .i64 0,.int .i64 0,.int .i64 0,.int .i64 0,.int .i64 0,.int .i64 0,.int .i64 0,.int .i64 0,.int .i64 0,.int .i64 0,.slice none 0 0,.slice none 0 0,.slice none 0 0] 185))=wA at *
 have hbcD:=hbcA.drew
 refine ZT (fun w'=>w'.cell? ⟨w.heap.size,0,none⟩=some (.int .i64 (B:Nat))∧w'.cell? ⟨w.heap.size,1,none⟩=some (.int .i64 8)∧w'.cell? ⟨w.heap.size,2,none⟩=some (.int .i64 24)∧w'.cell? ⟨d,0,none⟩=some (.slice (some ⟨sg,0,none⟩) n sc)) 20 [[0,1,2,3],[4,5,6,7,8],[9,10,11,12,13,14,15,16,17,18],[19]] ⟨c0,c1,c2,hd0A⟩ ?_
 simp only[PI]
 iterate 4 (refine ZH ?_;simp only[Act.put,PU])
 refine XB (by rfl) (fun K hK=>?_)
 go_wp2_with (refine(hCM _).mono ?_;clear hCM;rintro e w1 ⟨rfl,hk1⟩)
 have hkB:=hkA.drew.trans0 hk1
 replace hbcD:=hbcD.keep0 hk1
 replace hb6A:=hb6A.drew.keep0 hk1
 clear c0 c1 c2 hd0A
 obtain⟨c0,c1,c2⟩:=QC hbcD
 have hd0A:=hd0 _ hkB
 refine hK _ _ (⟨c0,c1,c2,hd0A⟩) ?_
 clear hK K
 try simp only[Act.put,PU]
 iterate 4 (refine ZH ?_;simp only[Act.put,PU])
 refine XB (by rfl) (fun K hK=>?_)
 go_wp2_with (refine(hWi _).mono ?_;clear hWi;rintro e w' ⟨rfl,rfl⟩)
 refine hK _ _ (⟨c0,c1,c2,hd0A⟩) ?_
 clear hK K
 try simp only[Act.put,PU]
 iterate 9 (refine ZH ?_;simp only[Act.put,PU])
 refine XB (by rfl) (fun K hK=>?_)
 go_wp2_with (refine(hSe _).mono ?_;clear hSe;rintro e w2 ⟨rfl,hk2⟩)
 have hkC:=hkB.trans0 hk2
 replace hbcD:=hbcD.keep0 hk2
 replace hb6A:=hb6A.keep0 hk2
 clear c0 c1 c2 hd0A hk1 hk2 hbcA hkB hkA
 obtain⟨c0,c1,c2⟩:=QC hbcD
 refine hK _ _ (⟨c0,c1,c2,hd0 _ hkC⟩) ?_
 clear hK K
 try simp only[Act.put,PU]
 refine JB ?_
 have hRd0:Calls Tryz.prog 233 #[.pointer (some ⟨d,0,none⟩),.int .i64 0] w2 fun e w'=>∃ u,e=.returned (.tuple #[u,.int .i64 0])∧w'.ownsRow w2.heap.size 5 1 u 64 (bys (List.replicate 64 0))∧Keep [] w2 w':=hRd w2 hkC 0 (by omega)
 go_wp2_with (first
  | (go_at_call 233;first
     | (refine hRd0.mono ?_
        clear hRd0
        rintro e w3 ⟨ua,rfl,hua,hk3⟩
        obtain⟨ga,ca,rfl,hca⟩:=ZG hua (by omega)
        have hkD:=hkC.trans0 hk3
        have hRd1:Calls Tryz.prog 233 #[.pointer (some ⟨d,0,none⟩),.int .i64 1] w3 fun e w'=>∃ u,e=.returned (.tuple #[u,.int .i64 0])∧w'.ownsRow w3.heap.size 5 1 u 64 (bys (List.replicate 64 0))∧Keep [] w3 w':=hRd w3 hkD 1 (by omega))
     | (refine hRd1.mono ?_
        clear hRd1
        rintro e w4 ⟨ub,rfl,hub,hk4⟩
        obtain⟨gb,cb,rfl,hcb⟩:=ZG hub (by omega)
        have hkE:=hkD.trans0 hk4
        have hSC:=Vl (some ⟨ga,0,none⟩) (some ⟨gb,0,none⟩) ca cb w4 ((Rd.of_own hua).keep hk4) (Rd.of_own hub)
        unfold supz at hSC))
  | (go_at_call 234
     refine hSC.mono ?_
     clear hSC
     rintro e w5 ⟨rfl,hk5⟩
     have hkF:=(hkE.trans0 hk5).alloc (.cells #[.int .i64 0,.int .i64 0,.int .i64 0,.int .i64 0,.int .i64 0] 183)
     have hbc5:=(((hbcD.keep0 hk3).keep0 hk4).keep0 hk5).keep0 ((Keep.refl _ _).alloc (.cells #[.int .i64 0,.int .i64 0,.int .i64 0,.int .i64 0,.int .i64 0] 183))
     have hb65:=(((hb6A.keep0 hk3).keep0 hk4).keep0 hk5).keep0 ((Keep.refl _ _).alloc (.cells #[.int .i64 0,.int .i64 0,.int .i64 0,.int .i64 0,.int .i64 0] 183))
     clear c0 c1 c2
     obtain⟨c0,c1,c2⟩:=QC hbc5)
  | (go_at_call 227
     refine(hPa _).mono ?_
     clear hPa
     rintro e w6 ⟨rfl,hk6⟩
     have hkG:=hkF.trans0 hk6
     clear c0 c1 c2
     obtain⟨c0,c1,c2⟩:=QC (hbc5.keep0 hk6))
  | (go_at_call 133
     refine(hNI _).mono ?_
     clear hNI
     rintro e w7 ⟨m,Fi,rfl,hi7,hk7⟩
     have hkH:=hkG.trans0 hk7
     have hbc7:=(hbc5.keep0 hk6).keep0 hk7
     have hb67:=(hb65.keep0 hk6).keep0 hk7))
 have hs6:=hkG.size
 have hs7:=hkH.size
 clear c0 c1 c2 hk3 hk4 hk5 hk6 hk7 hkC hkD hkE hkF hkG hua hub hbcD hb6A hbc5 hb65 hRd hd0
 obtain⟨N,hN⟩:∃ N,N=w.heap.size :: (w.heap.size+1) :: Fi:=⟨_,rfl⟩
 have hNc:w.heap.size∈N:=by rw[hN];simp
 have hN6:w.heap.size+1∈N:=by rw[hN];simp
 have hNi:∀ b∈Fi,b∈N:=fun b hb=>by rw[hN];simp[hb]
 have hL7:=hlaid w7 hkH N (fun b hb=>by
  rw[hN] at hb
  rcases List.mem_cons.1 hb with rfl | hb
  · exact⟨Nat.le_refl _,hbc7.lt⟩
  · rcases List.mem_cons.1 hb with rfl | hb
    · exact⟨by omega,hb67.lt⟩
    · exact⟨by have:=hi7.ge b hb;omega,hi7.lt b hb⟩)
 have hNN:=ZB hN
 clear hN hlaid
 have hb7:base≤w7.heap.size:=by omega
 go_loopw [19,20,21,22,23] (fun i _ _ _ _ wr=>∃ k:Nat,k≤2∧i=.int .i64 k∧Laid w7 wr base d F n (10*k) N∧KeepN N w7 wr) (fun i _ _ _ _ _=>2-(intOf i).toNat)
 case atStart=>exact⟨0,by omega,rfl,hL7,KeepN.of0 (Keep.refl _ _)⟩
 case round=>
  clear hL7
  obtain⟨k,hk,rfl,hL,hKN⟩:=hrel
  by_cases hlt:k<2
  · have hltI:((k:Nat):Int)<2:=by omega
    obtain⟨o,hob⟩:∃ o,(((k:Nat):Int) == 1)=o:=⟨_,rfl⟩
    go_wp2_with fail
    go_loopw [20,21,22,23] (fun i _ _ _ wr=>∃ p:Nat,p≤P∧i=.int .i64 p∧Laid w7 wr base d F n (10*k+2*p) N∧KeepN N w7 wr) (fun i _ _ _ _=>P-(intOf i).toNat)
    case atStart=>exact⟨0,by omega,rfl,hL,hKN⟩
    case round=>
     clear hL hKN
     obtain⟨p,hp,rfl,hL,hKN⟩:=hrel
     by_cases hpl:p<P
     · have hplI:((p:Nat):Int)<(P:Nat):=by omega
       have hPg:=QBD _ _ m Fi B hB1 hB2 (hi7.keepN hKN hNi) o p (by rw[← QA HPG];exact hpl)
       go_wp2_with (first
        | (go_at_call 236
           refine hPg.mono ?_
           clear hPg
           rintro e w8 ⟨A8,n8,c8,rfl,hn8,hr8,hk8⟩
           have hPB:=YAN A8 n8 c8 (vOf o) (by cases o <;> simp[vOf]) hn8 w8 hr8)
        | (go_at_call 235
           refine hPB.mono ?_
           clear hPB
           rintro e w9 ⟨u9,rfl,hk9,bs9,hl9,hu9⟩
           obtain⟨g9,c9,rfl,hc9⟩:=ZG hu9 (by omega)
           have hg9:=own_mem hu9 (g:=g9) (by simp[Value.ownBlock])
           have hL9:=(hL.keep0 hk8).add hk9 hg9.1 hg9.2
           have hMe:=hL9.mean (by omega) hb7 (some ⟨g9,0,none⟩) 64 c9)
        | (go_at_call 162
           refine hMe.mono ?_
           clear hMe
           rintro e w10 ⟨rfl,hL10,hk10⟩
           have hKN10:=((hKN.trans (KeepN.of0 hk8)).trans (KeepN.of0 hk9)).trans (hk10.sub (fun b hb=>List.mem_cons_of_mem _ hb))
           obtain⟨c0,c1,c2⟩:=QC (hbc7.keepN hKN10 hNc))
        | (go_at_call 238
           refine(hPt _ o p hpl).mono ?_
           rintro e w11 ⟨⟨n0,rfl,hn0⟩,hk11⟩
           have hWr:=(hL10.keep0 hk11).write (by omega) hb7 n0 (by omega) g9 c9 bs9 ((rd_keepN (Rd.of_own hu9) hk10 (by rintro _ ⟨⟩;simp)).keep hk11) hc9 (by simp))
        | (go_at_call 237
           refine hWr.mono ?_
           clear hWr
           rintro e w12 ⟨rfl,hL12,hk12⟩))
       go_roundw
       case rel=>exact⟨p+1,by omega,by go_num,(hL12.sub (fun b hb=>List.mem_cons_of_mem _ hb)).mono (by omega),(hKN10.trans (KeepN.of0 hk11)).trans (hk12.sub (fun b hb=>List.mem_cons_of_mem _ hb))⟩
       case measure=>simp[intOf];omega
     · obtain rfl:p=P:=by omega
       go_wp2_with fail
       go_roundw
       case rel=>exact⟨k+1,by omega,by go_num,hL.mono (by omega),hKN⟩
       case measure=>simp[intOf];omega
  · obtain rfl:k=2:=by omega
    go_wp2_with fail
    have hbc8:=hbc7.keepN hKN hNc
    obtain⟨c0,c1,c2⟩:=QC hbc8
    refine wp_region_rq (fun w'=>w'.cell? ⟨w.heap.size,1,none⟩=some (.int .i64 8)) 11 (.held 0 (.held 1 (.held 2 (.held 4 (.held 6 (.held 7 (.four 3 (.three 5 (.two 8 (.held 9 (.loud 10 .nil)) 10 (.loud 8 (.held 9 .nil))) 8 (.two 5 (.held 9 (.loud 10 .nil)) 10 (.loud 5 (.held 9 .nil))) 10 (.two 5 (.loud 8 (.held 9 .nil)) 8 (.loud 5 (.held 9 .nil)))) 5 (.three 3 (.two 8 (.held 9 (.loud 10 .nil)) 10 (.loud 8 (.held 9 .nil))) 8 (.two 3 (.held 9 (.loud 10 .nil)) 10 (.loud 3 (.held 9 .nil))) 10 (.two 3 (.loud 8 (.held 9 .nil)) 8 (.loud 3 (.held 9 .nil)))) 8 (.three 3 (.two 5 (.held 9 (.loud 10 .nil)) 10 (.loud 5 (.held 9 .nil))) 5 (.two 3 (.held 9 (.loud 10 .nil)) 10 (.loud 3 (.held 9 .nil))) 10 (.two 3 (.loud 5 (.held 9 .nil)) 5 (.loud 3 (.held 9 .nil)))) 10 (.three 3 (.two 5 (.loud 8 (.held 9 .nil)) 8 (.loud 5 (.held 9 .nil))) 5 (.two 3 (.loud 8 (.held 9 .nil)) 8 (.loud 3 (.held 9 .nil))) 8 (.two 3 (.loud 5 (.held 9 .nil)) 5 (.loud 3 (.held 9 .nil)))))))))))
     (by kernel_rfl) (by kernel_rfl) (fun _ _ d _ _ h=>by cases d <;> exact h) c1 ?_
    simp only[RQ.pick,PJ]
    iterate 6 (refine wpQ_held ?_ (by rfl) ?_ ?_;rotate_left;(focus(intro W hW;go_simp;try with_reducible rfl));simp only[Act.put,PU])
    refine @QAu (fun w' gB gO gS gR=>Keep [] wr w'∧(wr.heap.size≤gB∧wr.heap.size≤gO∧wr.heap.size≤gS∧wr.heap.size≤gR)∧Blk w' gB 3 (madeCells (Value.int .i64 0).cells (P*1))∧Blk w' gO 3 (madeCells (Value.int .i64 0).cells (P*1))∧Blk w' gS 166 (madeCells (Value.agg #[.int .i64 0,.int .i64 0]).cells (8*2))∧Blk w' gR 185 #[.int .i64 0,.int .i64 0,.int .i64 0,.int .i64 0,.int .i64 0,.int .i64 0,.int .i64 0,.int .i64 0,.int .i64 0,.int .i64 0,.int .i64 0,.slice none 0 0,.slice none 0 0,.slice none 0 0]) ?X _ (fun hR=>?_) ?_
    rotate_left
    · have hcl:∀ {W},Keep [] wr W→W.cell? ⟨w.heap.size,1,none⟩=some (.int .i64 8):=fun hk=>(QC (hbc8.keep0 hk)).2.1
      have k0:Keep [] wr wr.drew:=(Keep.refl _ _).drew
      generalize wr.drew=V0 at k0 ⊢
      refine wpQ_four ?_ ?_ ?_ ?_
      · refine wpQ_loud (by rfl) (fun K hK=>?_)
        refine elemIntsN.wp1_make _ _ rfl .i64 .i64 P rfl rfl (by omega) (by omega) ?_
        intro V1 gB e1 e2 hbB q1
        have lB:=leq k0.size e1
        clear e1 e2
        have k1:=k0.trans0 q1
        refine hK _ _ ((hcl k1)) ?_
        clear hK K
        try simp only[Act.put,PU]
        refine wpQ_three ?_ ?_ ?_
        · refine wpQ_loud (by rfl) (fun K hK=>?_)
          refine elemIntsN.wp1_make _ _ rfl .i64 .i64 P rfl rfl (by omega) (by omega) ?_
          intro V2 gO e1 e2 hbO q2
          have lO:=leq k1.size e1
          clear e1 e2
          have k2:=k1.trans0 q2
          refine hK _ _ ((hcl k2)) ?_
          clear hK K
          try simp only[Act.put,PU]
          refine wpQ_two ?_ ?_
          · refine wpQ_loud (by rfl) (fun K hK=>?_)
            refine elemUse.wp1_make _ _ rfl .i64 .i64 8 rfl rfl (by omega) (by omega) ?_
            intro V3 gS e1 e2 hbS q3
            have lS:=leq k2.size e1
            clear e1 e2
            have k3:=k2.trans0 q3
            refine hK _ _ ((hcl k3)) ?_
            clear hK K
            try simp only[Act.put,PU]
            iterate 1 (refine wpQ_held ?_ (by rfl) ?_ ?_;rotate_left;(focus(intro W hW;go_simp;try with_reducible rfl));simp only[Act.put,PU])
            refine wpQ_loud (by rfl) (fun K hK=>?_)
            go_wp2_with fail
            obtain⟨V4,gR,hbR,q4,lR,e1,e2⟩:=JAC k3 #[.int .i64 0,.int .i64 0,.int .i64 0,.int .i64 0,.int .i64 0,.int .i64 0,.int .i64 0,.int .i64 0,.int .i64 0,.int .i64 0,.int .i64 0,.slice none 0 0,.slice none 0 0,.slice none 0 0] 185
            rw[e1,e2]
            clear e1 e2
            have k4:=k3.trans0 q4
            refine hK _ _ ((hcl k4)) ?_
            clear hK K
            try simp only[Act.put,PU]
            refine wpQ_nil ?_
            exact hR V4 gB gO gS gR ⟨k4,⟨lB,lO,lS,lR⟩,hbB.keep0 (q2.trans0 (q3.trans0 q4)),hbO.keep0 (q3.trans0 q4),hbS.keep0 q4,hbR⟩
          · refine wpQ_loud (by rfl) (fun K hK=>?_)
            go_wp2_with fail
            obtain⟨V3,gR,hbR,q3,lR,e1,e2⟩:=JAC k2 #[.int .i64 0,.int .i64 0,.int .i64 0,.int .i64 0,.int .i64 0,.int .i64 0,.int .i64 0,.int .i64 0,.int .i64 0,.int .i64 0,.int .i64 0,.slice none 0 0,.slice none 0 0,.slice none 0 0] 185
            rw[e1,e2]
            clear e1 e2
            have k3:=k2.trans0 q3
            refine hK _ _ ((hcl k3)) ?_
            clear hK K
            try simp only[Act.put,PU]
            refine wpQ_loud (by rfl) (fun K hK=>?_)
            refine elemUse.wp1_make _ _ rfl .i64 .i64 8 rfl rfl (by omega) (by omega) ?_
            intro V4 gS e1 e2 hbS q4
            have lS:=leq k3.size e1
            clear e1 e2
            have k4:=k3.trans0 q4
            refine hK _ _ ((hcl k4)) ?_
            clear hK K
            try simp only[Act.put,PU]
            iterate 1 (refine wpQ_held ?_ (by rfl) ?_ ?_;rotate_left;(focus(intro W hW;go_simp;try with_reducible rfl));simp only[Act.put,PU])
            refine wpQ_nil ?_
            exact hR V4 gB gO gS gR ⟨k4,⟨lB,lO,lS,lR⟩,hbB.keep0 (q2.trans0 (q3.trans0 q4)),hbO.keep0 (q3.trans0 q4),hbS,hbR.keep0 q4⟩
        · refine wpQ_loud (by rfl) (fun K hK=>?_)
          refine elemUse.wp1_make _ _ rfl .i64 .i64 8 rfl rfl (by omega) (by omega) ?_
          intro V2 gS e1 e2 hbS q2
          have lS:=leq k1.size e1
          clear e1 e2
          have k2:=k1.trans0 q2
          refine hK _ _ ((hcl k2)) ?_
          clear hK K
          try simp only[Act.put,PU]
          refine wpQ_two ?_ ?_
          · refine wpQ_loud (by rfl) (fun K hK=>?_)
            refine elemIntsN.wp1_make _ _ rfl .i64 .i64 P rfl rfl (by omega) (by omega) ?_
            intro V3 gO e1 e2 hbO q3
            have lO:=leq k2.size e1
            clear e1 e2
            have k3:=k2.trans0 q3
            refine hK _ _ ((hcl k3)) ?_
            clear hK K
            try simp only[Act.put,PU]
            iterate 1 (refine wpQ_held ?_ (by rfl) ?_ ?_;rotate_left;(focus(intro W hW;go_simp;try with_reducible rfl));simp only[Act.put,PU])
            refine wpQ_loud (by rfl) (fun K hK=>?_)
            go_wp2_with fail
            obtain⟨V4,gR,hbR,q4,lR,e1,e2⟩:=JAC k3 #[.int .i64 0,.int .i64 0,.int .i64 0,.int .i64 0,.int .i64 0,.int .i64 0,.int .i64 0,.int .i64 0,.int .i64 0,.int .i64 0,.int .i64 0,.slice none 0 0,.slice none 0 0,.slice none 0 0] 185
            rw[e1,e2]
            clear e1 e2
            have k4:=k3.trans0 q4
            refine hK _ _ ((hcl k4)) ?_
            clear hK K
            try simp only[Act.put,PU]
            refine wpQ_nil ?_
            exact hR V4 gB gO gS gR ⟨k4,⟨lB,lO,lS,lR⟩,hbB.keep0 (q2.trans0 (q3.trans0 q4)),hbO.keep0 q4,hbS.keep0 (q3.trans0 q4),hbR⟩
          · refine wpQ_loud (by rfl) (fun K hK=>?_)
            go_wp2_with fail
            obtain⟨V3,gR,hbR,q3,lR,e1,e2⟩:=JAC k2 #[.int .i64 0,.int .i64 0,.int .i64 0,.int .i64 0,.int .i64 0,.int .i64 0,.int .i64 0,.int .i64 0,.int .i64 0,.int .i64 0,.int .i64 0,.slice none 0 0,.slice none 0 0,.slice none 0 0] 185
            rw[e1,e2]
            clear e1 e2
            have k3:=k2.trans0 q3
            refine hK _ _ ((hcl k3)) ?_
            clear hK K
            try simp only[Act.put,PU]
            refine wpQ_loud (by rfl) (fun K hK=>?_)
            refine elemIntsN.wp1_make _ _ rfl .i64 .i64 P rfl rfl (by omega) (by omega) ?_
            intro V4 gO e1 e2 hbO q4
            have lO:=leq k3.size e1
            clear e1 e2
            have k4:=k3.trans0 q4
            refine hK _ _ ((hcl k4)) ?_
            clear hK K
            try simp only[Act.put,PU]
            iterate 1 (refine wpQ_held ?_ (by rfl) ?_ ?_;rotate_left;(focus(intro W hW;go_simp;try with_reducible rfl));simp only[Act.put,PU])
            refine wpQ_nil ?_
            exact hR V4 gB gO gS gR ⟨k4,⟨lB,lO,lS,lR⟩,hbB.keep0 (q2.trans0 (q3.trans0 q4)),hbO,hbS.keep0 (q3.trans0 q4),hbR.keep0 q4⟩
        · refine wpQ_loud (by rfl) (fun K hK=>?_)
          go_wp2_with fail
          obtain⟨V2,gR,hbR,q2,lR,e1,e2⟩:=JAC k1 #[.int .i64 0,.int .i64 0,.int .i64 0,.int .i64 0,.int .i64 0,.int .i64 0,.int .i64 0,.int .i64 0,.int .i64 0,.int .i64 0,.int .i64 0,.slice none 0 0,.slice none 0 0,.slice none 0 0] 185
          rw[e1,e2]
          clear e1 e2
          have k2:=k1.trans0 q2
          refine hK _ _ ((hcl k2)) ?_
          clear hK K
          try simp only[Act.put,PU]
          refine wpQ_two ?_ ?_
          · refine wpQ_loud (by rfl) (fun K hK=>?_)
            refine elemIntsN.wp1_make _ _ rfl .i64 .i64 P rfl rfl (by omega) (by omega) ?_
            intro V3 gO e1 e2 hbO q3
            have lO:=leq k2.size e1
            clear e1 e2
            have k3:=k2.trans0 q3
            refine hK _ _ ((hcl k3)) ?_
            clear hK K
            try simp only[Act.put,PU]
            refine wpQ_loud (by rfl) (fun K hK=>?_)
            refine elemUse.wp1_make _ _ rfl .i64 .i64 8 rfl rfl (by omega) (by omega) ?_
            intro V4 gS e1 e2 hbS q4
            have lS:=leq k3.size e1
            clear e1 e2
            have k4:=k3.trans0 q4
            refine hK _ _ ((hcl k4)) ?_
            clear hK K
            try simp only[Act.put,PU]
            iterate 1 (refine wpQ_held ?_ (by rfl) ?_ ?_;rotate_left;(focus(intro W hW;go_simp;try with_reducible rfl));simp only[Act.put,PU])
            refine wpQ_nil ?_
            exact hR V4 gB gO gS gR ⟨k4,⟨lB,lO,lS,lR⟩,hbB.keep0 (q2.trans0 (q3.trans0 q4)),hbO.keep0 q4,hbS,hbR.keep0 (q3.trans0 q4)⟩
          · refine wpQ_loud (by rfl) (fun K hK=>?_)
            refine elemUse.wp1_make _ _ rfl .i64 .i64 8 rfl rfl (by omega) (by omega) ?_
            intro V3 gS e1 e2 hbS q3
            have lS:=leq k2.size e1
            clear e1 e2
            have k3:=k2.trans0 q3
            refine hK _ _ ((hcl k3)) ?_
            clear hK K
            try simp only[Act.put,PU]
            refine wpQ_loud (by rfl) (fun K hK=>?_)
            refine elemIntsN.wp1_make _ _ rfl .i64 .i64 P rfl rfl (by omega) (by omega) ?_
            intro V4 gO e1 e2 hbO q4
            have lO:=leq k3.size e1
            clear e1 e2
            have k4:=k3.trans0 q4
            refine hK _ _ ((hcl k4)) ?_
            clear hK K
            try simp only[Act.put,PU]
            iterate 1 (refine wpQ_held ?_ (by rfl) ?_ ?_;rotate_left;(focus(intro W hW;go_simp;try with_reducible rfl));simp only[Act.put,PU])
            refine wpQ_nil ?_
            exact hR V4 gB gO gS gR ⟨k4,⟨lB,lO,lS,lR⟩,hbB.keep0 (q2.trans0 (q3.trans0 q4)),hbO,hbS.keep0 q4,hbR.keep0 (q3.trans0 q4)⟩
      · refine wpQ_loud (by rfl) (fun K hK=>?_)
        refine elemIntsN.wp1_make _ _ rfl .i64 .i64 P rfl rfl (by omega) (by omega) ?_
        intro V1 gO e1 e2 hbO q1
        have lO:=leq k0.size e1
        clear e1 e2
        have k1:=k0.trans0 q1
        refine hK _ _ ((hcl k1)) ?_
        clear hK K
        try simp only[Act.put,PU]
        refine wpQ_three ?_ ?_ ?_
        · refine wpQ_loud (by rfl) (fun K hK=>?_)
          refine elemIntsN.wp1_make _ _ rfl .i64 .i64 P rfl rfl (by omega) (by omega) ?_
          intro V2 gB e1 e2 hbB q2
          have lB:=leq k1.size e1
          clear e1 e2
          have k2:=k1.trans0 q2
          refine hK _ _ ((hcl k2)) ?_
          clear hK K
          try simp only[Act.put,PU]
          refine wpQ_two ?_ ?_
          · refine wpQ_loud (by rfl) (fun K hK=>?_)
            refine elemUse.wp1_make _ _ rfl .i64 .i64 8 rfl rfl (by omega) (by omega) ?_
            intro V3 gS e1 e2 hbS q3
            have lS:=leq k2.size e1
            clear e1 e2
            have k3:=k2.trans0 q3
            refine hK _ _ ((hcl k3)) ?_
            clear hK K
            try simp only[Act.put,PU]
            iterate 1 (refine wpQ_held ?_ (by rfl) ?_ ?_;rotate_left;(focus(intro W hW;go_simp;try with_reducible rfl));simp only[Act.put,PU])
            refine wpQ_loud (by rfl) (fun K hK=>?_)
            go_wp2_with fail
            obtain⟨V4,gR,hbR,q4,lR,e1,e2⟩:=JAC k3 #[.int .i64 0,.int .i64 0,.int .i64 0,.int .i64 0,.int .i64 0,.int .i64 0,.int .i64 0,.int .i64 0,.int .i64 0,.int .i64 0,.int .i64 0,.slice none 0 0,.slice none 0 0,.slice none 0 0] 185
            rw[e1,e2]
            clear e1 e2
            have k4:=k3.trans0 q4
            refine hK _ _ ((hcl k4)) ?_
            clear hK K
            try simp only[Act.put,PU]
            refine wpQ_nil ?_
            exact hR V4 gB gO gS gR ⟨k4,⟨lB,lO,lS,lR⟩,hbB.keep0 (q3.trans0 q4),hbO.keep0 (q2.trans0 (q3.trans0 q4)),hbS.keep0 q4,hbR⟩
          · refine wpQ_loud (by rfl) (fun K hK=>?_)
            go_wp2_with fail
            obtain⟨V3,gR,hbR,q3,lR,e1,e2⟩:=JAC k2 #[.int .i64 0,.int .i64 0,.int .i64 0,.int .i64 0,.int .i64 0,.int .i64 0,.int .i64 0,.int .i64 0,.int .i64 0,.int .i64 0,.int .i64 0,.slice none 0 0,.slice none 0 0,.slice none 0 0] 185
            rw[e1,e2]
            clear e1 e2
            have k3:=k2.trans0 q3
            refine hK _ _ ((hcl k3)) ?_
            clear hK K
            try simp only[Act.put,PU]
            refine wpQ_loud (by rfl) (fun K hK=>?_)
            refine elemUse.wp1_make _ _ rfl .i64 .i64 8 rfl rfl (by omega) (by omega) ?_
            intro V4 gS e1 e2 hbS q4
            have lS:=leq k3.size e1
            clear e1 e2
            have k4:=k3.trans0 q4
            refine hK _ _ ((hcl k4)) ?_
            clear hK K
            try simp only[Act.put,PU]
            iterate 1 (refine wpQ_held ?_ (by rfl) ?_ ?_;rotate_left;(focus(intro W hW;go_simp;try with_reducible rfl));simp only[Act.put,PU])
            refine wpQ_nil ?_
            exact hR V4 gB gO gS gR ⟨k4,⟨lB,lO,lS,lR⟩,hbB.keep0 (q3.trans0 q4),hbO.keep0 (q2.trans0 (q3.trans0 q4)),hbS,hbR.keep0 q4⟩
        · refine wpQ_loud (by rfl) (fun K hK=>?_)
          refine elemUse.wp1_make _ _ rfl .i64 .i64 8 rfl rfl (by omega) (by omega) ?_
          intro V2 gS e1 e2 hbS q2
          have lS:=leq k1.size e1
          clear e1 e2
          have k2:=k1.trans0 q2
          refine hK _ _ ((hcl k2)) ?_
          clear hK K
          try simp only[Act.put,PU]
          refine wpQ_two ?_ ?_
          · refine wpQ_loud (by rfl) (fun K hK=>?_)
            refine elemIntsN.wp1_make _ _ rfl .i64 .i64 P rfl rfl (by omega) (by omega) ?_
            intro V3 gB e1 e2 hbB q3
            have lB:=leq k2.size e1
            clear e1 e2
            have k3:=k2.trans0 q3
            refine hK _ _ ((hcl k3)) ?_
            clear hK K
            try simp only[Act.put,PU]
            iterate 1 (refine wpQ_held ?_ (by rfl) ?_ ?_;rotate_left;(focus(intro W hW;go_simp;try with_reducible rfl));simp only[Act.put,PU])
            refine wpQ_loud (by rfl) (fun K hK=>?_)
            go_wp2_with fail
            obtain⟨V4,gR,hbR,q4,lR,e1,e2⟩:=JAC k3 #[.int .i64 0,.int .i64 0,.int .i64 0,.int .i64 0,.int .i64 0,.int .i64 0,.int .i64 0,.int .i64 0,.int .i64 0,.int .i64 0,.int .i64 0,.slice none 0 0,.slice none 0 0,.slice none 0 0] 185
            rw[e1,e2]
            clear e1 e2
            have k4:=k3.trans0 q4
            refine hK _ _ ((hcl k4)) ?_
            clear hK K
            try simp only[Act.put,PU]
            refine wpQ_nil ?_
            exact hR V4 gB gO gS gR ⟨k4,⟨lB,lO,lS,lR⟩,hbB.keep0 q4,hbO.keep0 (q2.trans0 (q3.trans0 q4)),hbS.keep0 (q3.trans0 q4),hbR⟩
          · refine wpQ_loud (by rfl) (fun K hK=>?_)
            go_wp2_with fail
            obtain⟨V3,gR,hbR,q3,lR,e1,e2⟩:=JAC k2 #[.int .i64 0,.int .i64 0,.int .i64 0,.int .i64 0,.int .i64 0,.int .i64 0,.int .i64 0,.int .i64 0,.int .i64 0,.int .i64 0,.int .i64 0,.slice none 0 0,.slice none 0 0,.slice none 0 0] 185
            rw[e1,e2]
            clear e1 e2
            have k3:=k2.trans0 q3
            refine hK _ _ ((hcl k3)) ?_
            clear hK K
            try simp only[Act.put,PU]
            refine wpQ_loud (by rfl) (fun K hK=>?_)
            refine elemIntsN.wp1_make _ _ rfl .i64 .i64 P rfl rfl (by omega) (by omega) ?_
            intro V4 gB e1 e2 hbB q4
            have lB:=leq k3.size e1
            clear e1 e2
            have k4:=k3.trans0 q4
            refine hK _ _ ((hcl k4)) ?_
            clear hK K
            try simp only[Act.put,PU]
            iterate 1 (refine wpQ_held ?_ (by rfl) ?_ ?_;rotate_left;(focus(intro W hW;go_simp;try with_reducible rfl));simp only[Act.put,PU])
            refine wpQ_nil ?_
            exact hR V4 gB gO gS gR ⟨k4,⟨lB,lO,lS,lR⟩,hbB,hbO.keep0 (q2.trans0 (q3.trans0 q4)),hbS.keep0 (q3.trans0 q4),hbR.keep0 q4⟩
        · refine wpQ_loud (by rfl) (fun K hK=>?_)
          go_wp2_with fail
          obtain⟨V2,gR,hbR,q2,lR,e1,e2⟩:=JAC k1 #[.int .i64 0,.int .i64 0,.int .i64 0,.int .i64 0,.int .i64 0,.int .i64 0,.int .i64 0,.int .i64 0,.int .i64 0,.int .i64 0,.int .i64 0,.slice none 0 0,.slice none 0 0,.slice none 0 0] 185
          rw[e1,e2]
          clear e1 e2
          have k2:=k1.trans0 q2
          refine hK _ _ ((hcl k2)) ?_
          clear hK K
          try simp only[Act.put,PU]
          refine wpQ_two ?_ ?_
          · refine wpQ_loud (by rfl) (fun K hK=>?_)
            refine elemIntsN.wp1_make _ _ rfl .i64 .i64 P rfl rfl (by omega) (by omega) ?_
            intro V3 gB e1 e2 hbB q3
            have lB:=leq k2.size e1
            clear e1 e2
            have k3:=k2.trans0 q3
            refine hK _ _ ((hcl k3)) ?_
            clear hK K
            try simp only[Act.put,PU]
            refine wpQ_loud (by rfl) (fun K hK=>?_)
            refine elemUse.wp1_make _ _ rfl .i64 .i64 8 rfl rfl (by omega) (by omega) ?_
            intro V4 gS e1 e2 hbS q4
            have lS:=leq k3.size e1
            clear e1 e2
            have k4:=k3.trans0 q4
            refine hK _ _ ((hcl k4)) ?_
            clear hK K
            try simp only[Act.put,PU]
            iterate 1 (refine wpQ_held ?_ (by rfl) ?_ ?_;rotate_left;(focus(intro W hW;go_simp;try with_reducible rfl));simp only[Act.put,PU])
            refine wpQ_nil ?_
            exact hR V4 gB gO gS gR ⟨k4,⟨lB,lO,lS,lR⟩,hbB.keep0 q4,hbO.keep0 (q2.trans0 (q3.trans0 q4)),hbS,hbR.keep0 (q3.trans0 q4)⟩
          · refine wpQ_loud (by rfl) (fun K hK=>?_)
            refine elemUse.wp1_make _ _ rfl .i64 .i64 8 rfl rfl (by omega) (by omega) ?_
            intro V3 gS e1 e2 hbS q3
            have lS:=leq k2.size e1
            clear e1 e2
            have k3:=k2.trans0 q3
            refine hK _ _ ((hcl k3)) ?_
            clear hK K
            try simp only[Act.put,PU]
            refine wpQ_loud (by rfl) (fun K hK=>?_)
            refine elemIntsN.wp1_make _ _ rfl .i64 .i64 P rfl rfl (by omega) (by omega) ?_
            intro V4 gB e1 e2 hbB q4
            have lB:=leq k3.size e1
            clear e1 e2
            have k4:=k3.trans0 q4
            refine hK _ _ ((hcl k4)) ?_
            clear hK K
            try simp only[Act.put,PU]
            iterate 1 (refine wpQ_held ?_ (by rfl) ?_ ?_;rotate_left;(focus(intro W hW;go_simp;try with_reducible rfl));simp only[Act.put,PU])
            refine wpQ_nil ?_
            exact hR V4 gB gO gS gR ⟨k4,⟨lB,lO,lS,lR⟩,hbB,hbO.keep0 (q2.trans0 (q3.trans0 q4)),hbS.keep0 q4,hbR.keep0 (q3.trans0 q4)⟩
      · refine wpQ_loud (by rfl) (fun K hK=>?_)
        refine elemUse.wp1_make _ _ rfl .i64 .i64 8 rfl rfl (by omega) (by omega) ?_
        intro V1 gS e1 e2 hbS q1
        have lS:=leq k0.size e1
        clear e1 e2
        have k1:=k0.trans0 q1
        refine hK _ _ ((hcl k1)) ?_
        clear hK K
        try simp only[Act.put,PU]
        refine wpQ_three ?_ ?_ ?_
        · refine wpQ_loud (by rfl) (fun K hK=>?_)
          refine elemIntsN.wp1_make _ _ rfl .i64 .i64 P rfl rfl (by omega) (by omega) ?_
          intro V2 gB e1 e2 hbB q2
          have lB:=leq k1.size e1
          clear e1 e2
          have k2:=k1.trans0 q2
          refine hK _ _ ((hcl k2)) ?_
          clear hK K
          try simp only[Act.put,PU]
          refine wpQ_two ?_ ?_
          · refine wpQ_loud (by rfl) (fun K hK=>?_)
            refine elemIntsN.wp1_make _ _ rfl .i64 .i64 P rfl rfl (by omega) (by omega) ?_
            intro V3 gO e1 e2 hbO q3
            have lO:=leq k2.size e1
            clear e1 e2
            have k3:=k2.trans0 q3
            refine hK _ _ ((hcl k3)) ?_
            clear hK K
            try simp only[Act.put,PU]
            iterate 1 (refine wpQ_held ?_ (by rfl) ?_ ?_;rotate_left;(focus(intro W hW;go_simp;try with_reducible rfl));simp only[Act.put,PU])
            refine wpQ_loud (by rfl) (fun K hK=>?_)
            go_wp2_with fail
            obtain⟨V4,gR,hbR,q4,lR,e1,e2⟩:=JAC k3 #[.int .i64 0,.int .i64 0,.int .i64 0,.int .i64 0,.int .i64 0,.int .i64 0,.int .i64 0,.int .i64 0,.int .i64 0,.int .i64 0,.int .i64 0,.slice none 0 0,.slice none 0 0,.slice none 0 0] 185
            rw[e1,e2]
            clear e1 e2
            have k4:=k3.trans0 q4
            refine hK _ _ ((hcl k4)) ?_
            clear hK K
            try simp only[Act.put,PU]
            refine wpQ_nil ?_
            exact hR V4 gB gO gS gR ⟨k4,⟨lB,lO,lS,lR⟩,hbB.keep0 (q3.trans0 q4),hbO.keep0 q4,hbS.keep0 (q2.trans0 (q3.trans0 q4)),hbR⟩
          · refine wpQ_loud (by rfl) (fun K hK=>?_)
            go_wp2_with fail
            obtain⟨V3,gR,hbR,q3,lR,e1,e2⟩:=JAC k2 #[.int .i64 0,.int .i64 0,.int .i64 0,.int .i64 0,.int .i64 0,.int .i64 0,.int .i64 0,.int .i64 0,.int .i64 0,.int .i64 0,.int .i64 0,.slice none 0 0,.slice none 0 0,.slice none 0 0] 185
            rw[e1,e2]
            clear e1 e2
            have k3:=k2.trans0 q3
            refine hK _ _ ((hcl k3)) ?_
            clear hK K
            try simp only[Act.put,PU]
            refine wpQ_loud (by rfl) (fun K hK=>?_)
            refine elemIntsN.wp1_make _ _ rfl .i64 .i64 P rfl rfl (by omega) (by omega) ?_
            intro V4 gO e1 e2 hbO q4
            have lO:=leq k3.size e1
            clear e1 e2
            have k4:=k3.trans0 q4
            refine hK _ _ ((hcl k4)) ?_
            clear hK K
            try simp only[Act.put,PU]
            iterate 1 (refine wpQ_held ?_ (by rfl) ?_ ?_;rotate_left;(focus(intro W hW;go_simp;try with_reducible rfl));simp only[Act.put,PU])
            refine wpQ_nil ?_
            exact hR V4 gB gO gS gR ⟨k4,⟨lB,lO,lS,lR⟩,hbB.keep0 (q3.trans0 q4),hbO,hbS.keep0 (q2.trans0 (q3.trans0 q4)),hbR.keep0 q4⟩
        · refine wpQ_loud (by rfl) (fun K hK=>?_)
          refine elemIntsN.wp1_make _ _ rfl .i64 .i64 P rfl rfl (by omega) (by omega) ?_
          intro V2 gO e1 e2 hbO q2
          have lO:=leq k1.size e1
          clear e1 e2
          have k2:=k1.trans0 q2
          refine hK _ _ ((hcl k2)) ?_
          clear hK K
          try simp only[Act.put,PU]
          refine wpQ_two ?_ ?_
          · refine wpQ_loud (by rfl) (fun K hK=>?_)
            refine elemIntsN.wp1_make _ _ rfl .i64 .i64 P rfl rfl (by omega) (by omega) ?_
            intro V3 gB e1 e2 hbB q3
            have lB:=leq k2.size e1
            clear e1 e2
            have k3:=k2.trans0 q3
            refine hK _ _ ((hcl k3)) ?_
            clear hK K
            try simp only[Act.put,PU]
            iterate 1 (refine wpQ_held ?_ (by rfl) ?_ ?_;rotate_left;(focus(intro W hW;go_simp;try with_reducible rfl));simp only[Act.put,PU])
            refine wpQ_loud (by rfl) (fun K hK=>?_)
            go_wp2_with fail
            obtain⟨V4,gR,hbR,q4,lR,e1,e2⟩:=JAC k3 #[.int .i64 0,.int .i64 0,.int .i64 0,.int .i64 0,.int .i64 0,.int .i64 0,.int .i64 0,.int .i64 0,.int .i64 0,.int .i64 0,.int .i64 0,.slice none 0 0,.slice none 0 0,.slice none 0 0] 185
            rw[e1,e2]
            clear e1 e2
            have k4:=k3.trans0 q4
            refine hK _ _ ((hcl k4)) ?_
            clear hK K
            try simp only[Act.put,PU]
            refine wpQ_nil ?_
            exact hR V4 gB gO gS gR ⟨k4,⟨lB,lO,lS,lR⟩,hbB.keep0 q4,hbO.keep0 (q3.trans0 q4),hbS.keep0 (q2.trans0 (q3.trans0 q4)),hbR⟩
          · refine wpQ_loud (by rfl) (fun K hK=>?_)
            go_wp2_with fail
            obtain⟨V3,gR,hbR,q3,lR,e1,e2⟩:=JAC k2 #[.int .i64 0,.int .i64 0,.int .i64 0,.int .i64 0,.int .i64 0,.int .i64 0,.int .i64 0,.int .i64 0,.int .i64 0,.int .i64 0,.int .i64 0,.slice none 0 0,.slice none 0 0,.slice none 0 0] 185
            rw[e1,e2]
            clear e1 e2
            have k3:=k2.trans0 q3
            refine hK _ _ ((hcl k3)) ?_
            clear hK K
            try simp only[Act.put,PU]
            refine wpQ_loud (by rfl) (fun K hK=>?_)
            refine elemIntsN.wp1_make _ _ rfl .i64 .i64 P rfl rfl (by omega) (by omega) ?_
            intro V4 gB e1 e2 hbB q4
            have lB:=leq k3.size e1
            clear e1 e2
            have k4:=k3.trans0 q4
            refine hK _ _ ((hcl k4)) ?_
            clear hK K
            try simp only[Act.put,PU]
            iterate 1 (refine wpQ_held ?_ (by rfl) ?_ ?_;rotate_left;(focus(intro W hW;go_simp;try with_reducible rfl));simp only[Act.put,PU])
            refine wpQ_nil ?_
            exact hR V4 gB gO gS gR ⟨k4,⟨lB,lO,lS,lR⟩,hbB,hbO.keep0 (q3.trans0 q4),hbS.keep0 (q2.trans0 (q3.trans0 q4)),hbR.keep0 q4⟩
        · refine wpQ_loud (by rfl) (fun K hK=>?_)
          go_wp2_with fail
          obtain⟨V2,gR,hbR,q2,lR,e1,e2⟩:=JAC k1 #[.int .i64 0,.int .i64 0,.int .i64 0,.int .i64 0,.int .i64 0,.int .i64 0,.int .i64 0,.int .i64 0,.int .i64 0,.int .i64 0,.int .i64 0,.slice none 0 0,.slice none 0 0,.slice none 0 0] 185
          rw[e1,e2]
          clear e1 e2
          have k2:=k1.trans0 q2
          refine hK _ _ ((hcl k2)) ?_
          clear hK K
          try simp only[Act.put,PU]
          refine wpQ_two ?_ ?_
          · refine wpQ_loud (by rfl) (fun K hK=>?_)
            refine elemIntsN.wp1_make _ _ rfl .i64 .i64 P rfl rfl (by omega) (by omega) ?_
            intro V3 gB e1 e2 hbB q3
            have lB:=leq k2.size e1
            clear e1 e2
            have k3:=k2.trans0 q3
            refine hK _ _ ((hcl k3)) ?_
            clear hK K
            try simp only[Act.put,PU]
            refine wpQ_loud (by rfl) (fun K hK=>?_)
            refine elemIntsN.wp1_make _ _ rfl .i64 .i64 P rfl rfl (by omega) (by omega) ?_
            intro V4 gO e1 e2 hbO q4
            have lO:=leq k3.size e1
            clear e1 e2
            have k4:=k3.trans0 q4
            refine hK _ _ ((hcl k4)) ?_
            clear hK K
            try simp only[Act.put,PU]
            iterate 1 (refine wpQ_held ?_ (by rfl) ?_ ?_;rotate_left;(focus(intro W hW;go_simp;try with_reducible rfl));simp only[Act.put,PU])
            refine wpQ_nil ?_
            exact hR V4 gB gO gS gR ⟨k4,⟨lB,lO,lS,lR⟩,hbB.keep0 q4,hbO,hbS.keep0 (q2.trans0 (q3.trans0 q4)),hbR.keep0 (q3.trans0 q4)⟩
          · refine wpQ_loud (by rfl) (fun K hK=>?_)
            refine elemIntsN.wp1_make _ _ rfl .i64 .i64 P rfl rfl (by omega) (by omega) ?_
            intro V3 gO e1 e2 hbO q3
            have lO:=leq k2.size e1
            clear e1 e2
            have k3:=k2.trans0 q3
            refine hK _ _ ((hcl k3)) ?_
            clear hK K
            try simp only[Act.put,PU]
            refine wpQ_loud (by rfl) (fun K hK=>?_)
            refine elemIntsN.wp1_make _ _ rfl .i64 .i64 P rfl rfl (by omega) (by omega) ?_
            intro V4 gB e1 e2 hbB q4
            have lB:=leq k3.size e1
            clear e1 e2
            have k4:=k3.trans0 q4
            refine hK _ _ ((hcl k4)) ?_
            clear hK K
            try simp only[Act.put,PU]
            iterate 1 (refine wpQ_held ?_ (by rfl) ?_ ?_;rotate_left;(focus(intro W hW;go_simp;try with_reducible rfl));simp only[Act.put,PU])
            refine wpQ_nil ?_
            exact hR V4 gB gO gS gR ⟨k4,⟨lB,lO,lS,lR⟩,hbB,hbO.keep0 q4,hbS.keep0 (q2.trans0 (q3.trans0 q4)),hbR.keep0 (q3.trans0 q4)⟩
      · refine wpQ_loud (by rfl) (fun K hK=>?_)
        go_wp2_with fail
        obtain⟨V1,gR,hbR,q1,lR,e1,e2⟩:=JAC k0 #[.int .i64 0,.int .i64 0,.int .i64 0,.int .i64 0,.int .i64 0,.int .i64 0,.int .i64 0,.int .i64 0,.int .i64 0,.int .i64 0,.int .i64 0,.slice none 0 0,.slice none 0 0,.slice none 0 0] 185
        rw[e1,e2]
        clear e1 e2
        have k1:=k0.trans0 q1
        refine hK _ _ ((hcl k1)) ?_
        clear hK K
        try simp only[Act.put,PU]
        refine wpQ_three ?_ ?_ ?_
        · refine wpQ_loud (by rfl) (fun K hK=>?_)
          refine elemIntsN.wp1_make _ _ rfl .i64 .i64 P rfl rfl (by omega) (by omega) ?_
          intro V2 gB e1 e2 hbB q2
          have lB:=leq k1.size e1
          clear e1 e2
          have k2:=k1.trans0 q2
          refine hK _ _ ((hcl k2)) ?_
          clear hK K
          try simp only[Act.put,PU]
          refine wpQ_two ?_ ?_
          · refine wpQ_loud (by rfl) (fun K hK=>?_)
            refine elemIntsN.wp1_make _ _ rfl .i64 .i64 P rfl rfl (by omega) (by omega) ?_
            intro V3 gO e1 e2 hbO q3
            have lO:=leq k2.size e1
            clear e1 e2
            have k3:=k2.trans0 q3
            refine hK _ _ ((hcl k3)) ?_
            clear hK K
            try simp only[Act.put,PU]
            refine wpQ_loud (by rfl) (fun K hK=>?_)
            refine elemUse.wp1_make _ _ rfl .i64 .i64 8 rfl rfl (by omega) (by omega) ?_
            intro V4 gS e1 e2 hbS q4
            have lS:=leq k3.size e1
            clear e1 e2
            have k4:=k3.trans0 q4
            refine hK _ _ ((hcl k4)) ?_
            clear hK K
            try simp only[Act.put,PU]
            iterate 1 (refine wpQ_held ?_ (by rfl) ?_ ?_;rotate_left;(focus(intro W hW;go_simp;try with_reducible rfl));simp only[Act.put,PU])
            refine wpQ_nil ?_
            exact hR V4 gB gO gS gR ⟨k4,⟨lB,lO,lS,lR⟩,hbB.keep0 (q3.trans0 q4),hbO.keep0 q4,hbS,hbR.keep0 (q2.trans0 (q3.trans0 q4))⟩
          · refine wpQ_loud (by rfl) (fun K hK=>?_)
            refine elemUse.wp1_make _ _ rfl .i64 .i64 8 rfl rfl (by omega) (by omega) ?_
            intro V3 gS e1 e2 hbS q3
            have lS:=leq k2.size e1
            clear e1 e2
            have k3:=k2.trans0 q3
            refine hK _ _ ((hcl k3)) ?_
            clear hK K
            try simp only[Act.put,PU]
            refine wpQ_loud (by rfl) (fun K hK=>?_)
            refine elemIntsN.wp1_make _ _ rfl .i64 .i64 P rfl rfl (by omega) (by omega) ?_
            intro V4 gO e1 e2 hbO q4
            have lO:=leq k3.size e1
            clear e1 e2
            have k4:=k3.trans0 q4
            refine hK _ _ ((hcl k4)) ?_
            clear hK K
            try simp only[Act.put,PU]
            iterate 1 (refine wpQ_held ?_ (by rfl) ?_ ?_;rotate_left;(focus(intro W hW;go_simp;try with_reducible rfl));simp only[Act.put,PU])
            refine wpQ_nil ?_
            exact hR V4 gB gO gS gR ⟨k4,⟨lB,lO,lS,lR⟩,hbB.keep0 (q3.trans0 q4),hbO,hbS.keep0 q4,hbR.keep0 (q2.trans0 (q3.trans0 q4))⟩
        · refine wpQ_loud (by rfl) (fun K hK=>?_)
          refine elemIntsN.wp1_make _ _ rfl .i64 .i64 P rfl rfl (by omega) (by omega) ?_
          intro V2 gO e1 e2 hbO q2
          have lO:=leq k1.size e1
          clear e1 e2
          have k2:=k1.trans0 q2
          refine hK _ _ ((hcl k2)) ?_
          clear hK K
          try simp only[Act.put,PU]
          refine wpQ_two ?_ ?_
          · refine wpQ_loud (by rfl) (fun K hK=>?_)
            refine elemIntsN.wp1_make _ _ rfl .i64 .i64 P rfl rfl (by omega) (by omega) ?_
            intro V3 gB e1 e2 hbB q3
            have lB:=leq k2.size e1
            clear e1 e2
            have k3:=k2.trans0 q3
            refine hK _ _ ((hcl k3)) ?_
            clear hK K
            try simp only[Act.put,PU]
            refine wpQ_loud (by rfl) (fun K hK=>?_)
            refine elemUse.wp1_make _ _ rfl .i64 .i64 8 rfl rfl (by omega) (by omega) ?_
            intro V4 gS e1 e2 hbS q4
            have lS:=leq k3.size e1
            clear e1 e2
            have k4:=k3.trans0 q4
            refine hK _ _ ((hcl k4)) ?_
            clear hK K
            try simp only[Act.put,PU]
            iterate 1 (refine wpQ_held ?_ (by rfl) ?_ ?_;rotate_left;(focus(intro W hW;go_simp;try with_reducible rfl));simp only[Act.put,PU])
            refine wpQ_nil ?_
            exact hR V4 gB gO gS gR ⟨k4,⟨lB,lO,lS,lR⟩,hbB.keep0 q4,hbO.keep0 (q3.trans0 q4),hbS,hbR.keep0 (q2.trans0 (q3.trans0 q4))⟩
          · refine wpQ_loud (by rfl) (fun K hK=>?_)
            refine elemUse.wp1_make _ _ rfl .i64 .i64 8 rfl rfl (by omega) (by omega) ?_
            intro V3 gS e1 e2 hbS q3
            have lS:=leq k2.size e1
            clear e1 e2
            have k3:=k2.trans0 q3
            refine hK _ _ ((hcl k3)) ?_
            clear hK K
            try simp only[Act.put,PU]
            refine wpQ_loud (by rfl) (fun K hK=>?_)
            refine elemIntsN.wp1_make _ _ rfl .i64 .i64 P rfl rfl (by omega) (by omega) ?_
            intro V4 gB e1 e2 hbB q4
            have lB:=leq k3.size e1
            clear e1 e2
            have k4:=k3.trans0 q4
            refine hK _ _ ((hcl k4)) ?_
            clear hK K
            try simp only[Act.put,PU]
            iterate 1 (refine wpQ_held ?_ (by rfl) ?_ ?_;rotate_left;(focus(intro W hW;go_simp;try with_reducible rfl));simp only[Act.put,PU])
            refine wpQ_nil ?_
            exact hR V4 gB gO gS gR ⟨k4,⟨lB,lO,lS,lR⟩,hbB,hbO.keep0 (q3.trans0 q4),hbS.keep0 q4,hbR.keep0 (q2.trans0 (q3.trans0 q4))⟩
        · refine wpQ_loud (by rfl) (fun K hK=>?_)
          refine elemUse.wp1_make _ _ rfl .i64 .i64 8 rfl rfl (by omega) (by omega) ?_
          intro V2 gS e1 e2 hbS q2
          have lS:=leq k1.size e1
          clear e1 e2
          have k2:=k1.trans0 q2
          refine hK _ _ ((hcl k2)) ?_
          clear hK K
          try simp only[Act.put,PU]
          refine wpQ_two ?_ ?_
          · refine wpQ_loud (by rfl) (fun K hK=>?_)
            refine elemIntsN.wp1_make _ _ rfl .i64 .i64 P rfl rfl (by omega) (by omega) ?_
            intro V3 gB e1 e2 hbB q3
            have lB:=leq k2.size e1
            clear e1 e2
            have k3:=k2.trans0 q3
            refine hK _ _ ((hcl k3)) ?_
            clear hK K
            try simp only[Act.put,PU]
            refine wpQ_loud (by rfl) (fun K hK=>?_)
            refine elemIntsN.wp1_make _ _ rfl .i64 .i64 P rfl rfl (by omega) (by omega) ?_
            intro V4 gO e1 e2 hbO q4
            have lO:=leq k3.size e1
            clear e1 e2
            have k4:=k3.trans0 q4
            refine hK _ _ ((hcl k4)) ?_
            clear hK K
            try simp only[Act.put,PU]
            iterate 1 (refine wpQ_held ?_ (by rfl) ?_ ?_;rotate_left;(focus(intro W hW;go_simp;try with_reducible rfl));simp only[Act.put,PU])
            refine wpQ_nil ?_
            exact hR V4 gB gO gS gR ⟨k4,⟨lB,lO,lS,lR⟩,hbB.keep0 q4,hbO,hbS.keep0 (q3.trans0 q4),hbR.keep0 (q2.trans0 (q3.trans0 q4))⟩
          · refine wpQ_loud (by rfl) (fun K hK=>?_)
            refine elemIntsN.wp1_make _ _ rfl .i64 .i64 P rfl rfl (by omega) (by omega) ?_
            intro V3 gO e1 e2 hbO q3
            have lO:=leq k2.size e1
            clear e1 e2
            have k3:=k2.trans0 q3
            refine hK _ _ ((hcl k3)) ?_
            clear hK K
            try simp only[Act.put,PU]
            refine wpQ_loud (by rfl) (fun K hK=>?_)
            refine elemIntsN.wp1_make _ _ rfl .i64 .i64 P rfl rfl (by omega) (by omega) ?_
            intro V4 gB e1 e2 hbB q4
            have lB:=leq k3.size e1
            clear e1 e2
            have k4:=k3.trans0 q4
            refine hK _ _ ((hcl k4)) ?_
            clear hK K
            try simp only[Act.put,PU]
            iterate 1 (refine wpQ_held ?_ (by rfl) ?_ ?_;rotate_left;(focus(intro W hW;go_simp;try with_reducible rfl));simp only[Act.put,PU])
            refine wpQ_nil ?_
            exact hR V4 gB gO gS gR ⟨k4,⟨lB,lO,lS,lR⟩,hbB,hbO.keep0 q4,hbS.keep0 (q3.trans0 q4),hbR.keep0 (q2.trans0 (q3.trans0 q4))⟩
    rintro w8 gB gO gS gR ⟨hk8,⟨hlB,hlO,hlS,hlR⟩,hbB,hbO,hbS,hbR⟩
    replace hbS:=VAD hbS
    have hbc9:=hbc8.keep0 hk8
    have hltR:=hbR.lt
    have hltS:=hbS.lt
    have hNlt:∀ b∈N,b<wr.heap.size:=fun b hb=>by obtain⟨_,_,_,_,_,_,_,_,h7⟩:=hL;exact(h7 b hb).2
    have nRS:gR≠gS:=Qk hbR hbS (by decide)
    have nRB:gR≠gB:=Qk hbR hbB (by decide)
    have nRO:gR≠gO:=Qk hbR hbO (by decide)
    have nRc:gR≠w.heap.size:=Qk hbR hbc9 (by decide)
    have nSB:gS≠gB:=Qk hbS hbB (by decide)
    have nSO:gS≠gO:=Qk hbS hbO (by decide)
    have nSc:gS≠w.heap.size:=Qk hbS hbc9 (by decide)
    refine XX rfl _ _ _ rfl _ _ rfl rfl (ZAA gR [.int .i64 1,.int .i64 1,.int .i64 1,.int .i64 0,.int .i64 0,.int .i64 0,.int .i64 0,.int .i64 0,.int .i64 1,.int .i64 0,.int .i64 1,.slice (some ⟨gB,0,none⟩) P P,.slice (some ⟨gO,0,none⟩) P P,.slice (some ⟨gS,0,none⟩) 8 8] rfl (by simp[Value.oneCell']) w8 (VX hbR 14 (by simp))) ?_
    have hbR9:=hbR.all [.int .i64 1,.int .i64 1,.int .i64 1,.int .i64 0,.int .i64 0,.int .i64 0,.int .i64 0,.int .i64 0,.int .i64 1,.int .i64 0,.int .i64 1,.slice (some ⟨gB,0,none⟩) P P,.slice (some ⟨gO,0,none⟩) P P,.slice (some ⟨gS,0,none⟩) 8 8] (by simp)
    have hk9:=Keep.setCells (g:=gR) [.int .i64 1,.int .i64 1,.int .i64 1,.int .i64 0,.int .i64 0,.int .i64 0,.int .i64 0,.int .i64 0,.int .i64 1,.int .i64 0,.int .i64 1,.slice (some ⟨gB,0,none⟩) P P,.slice (some ⟨gO,0,none⟩) P P,.slice (some ⟨gS,0,none⟩) 8 8] 0 (Keep.refl [gR] w8) (.inl (by simp))
    generalize w8.setCells gR 0 [.int .i64 1,.int .i64 1,.int .i64 1,.int .i64 0,.int .i64 0,.int .i64 0,.int .i64 0,.int .i64 0,.int .i64 1,.int .i64 0,.int .i64 1,.slice (some ⟨gB,0,none⟩) P P,.slice (some ⟨gO,0,none⟩) P P,.slice (some ⟨gS,0,none⟩) 8 8]=w9 at *
    have hbS9:=hbS.keep hk9 (by simpa using nRS.symm)
    have hbB9:=hbB.keep hk9 (by simpa using nRB.symm)
    have hbO9:=hbO.keep hk9 (by simpa using nRO.symm)
    replace hbc9:=hbc9.keep hk9 (by simpa using nRc.symm)
    clear hbS hbB hbO hbR
    obtain⟨e0,e1,e2,e3,e4,e5,e6,e7,e8,e9,e10,e11,e12,e13⟩:=cells14 hbR9
    have q0:w9.cell? ⟨gS,0,none⟩=some (.int .i64 0):=by rw[hbS9.cell];simp
    have qf:=hbS9.frozen 0
    have hk10:Keep [gS] w9 (w9.setCell ⟨gS,0,none⟩ (.int .i64 1)):=(Keep.refl _ _).setCell (p:=⟨gS,0,none⟩) (.inl (by simp)) _
    have hbR10:=hbR9.keep hk10 (by simpa using nRS)
    have hbc10:=hbc9.keep hk10 (by simpa using nSc.symm)
    have hbB10:=hbB9.keep hk10 (by simpa using nSB.symm)
    have hbO10:=hbO9.keep hk10 (by simpa using nSO.symm)
    have hbS10:=hbS9.set 0 (.int .i64 1)
    obtain⟨i0,i1,i2,i3,i4,i5,i6,i7,i8,i9,i10,i11,i12,i13⟩:=cells14 hbR10
    clear c0 c1 c2
    obtain⟨c0,c1,c2⟩:=QC hbc10
    go_wp2_with fail
    have hs8:=hk8.size
    have hw7r:=hL.keepF.size
    have hL10:=((hL.addL hk8 [gR,gS] (by
     intro b hb
     simp at hb
     rcases hb with rfl | rfl
     · exact⟨hlR,hltR⟩
     · exact⟨hlS,hltS⟩)).turn hk9 (by
     intro x hx
     simp at hx
     subst hx
     exact⟨by simp,by omega⟩)).turn hk10 (by
     intro x hx
     simp at hx
     subst hx
     exact⟨by simp,by omega⟩)
    have hkn10:KeepN N w7 (w9.setCell ⟨gS,0,none⟩ (.int .i64 1)):=by
     refine((hKN.trans (KeepN.of0 hk8)).trans ⟨[gR],hk9,fun b hb=>?_⟩).trans ⟨[gS],hk10,fun b hb=>?_⟩
     · have:=hNlt b hb
       simp
       omega
     · have:=hNlt b hb
       simp
       omega
    have hRBc:=hRB _ (some ⟨gB,0,none⟩) P (some ⟨gO,0,none⟩) P gS (XAI hbB10) (XAI hbO10) (YAe hbS10)
    have hsg10:=YAe hbS10
    have hrr10:=hbR10.range
    clear i0 i1 i2 i3 i4 i5 i6 i7 i8 i9 i10 i11 i12 i13 e0 e1 e2 e3 e4 e5 e6 e7 e8 e9 e10 e11 e12 e13 hbS10 hbB10 hbO10 hbc9 hbR9 hbS9 hbB9 hbO9 q0 qf hk9 hk10 hRB
    have hltS10:=hsg10.2 (by omega)
    generalize w9.setCell ⟨gS,0,none⟩ (.int .i64 1)=w10 at *
    go_wp2_with (first
     | (go_at_call 161
        refine hRBc.mono ?_
        clear hRBc
        rintro e w11 ⟨u,rfl,hk11,bsu,hlu,hu⟩
        obtain⟨gu,cu,rfl,hcu⟩:=ZG hu (by omega)
        have hgu:=own_mem hu (g:=gu) (by simp[Value.ownBlock])
        have hL11:=hL10.add hk11 hgu.1 hgu.2
        have hMe:=hL11.mean (by omega) hb7 (some ⟨gu,0,none⟩) 128 cu)
     | (go_at_call 162
        refine hMe.mono ?_
        clear hMe
        rintro e w12 ⟨rfl,hL12,hk12⟩
        have hbc12:=(hbc10.keep0 hk11).keepN hk12 (by simp[hNc])
        clear c0 c1 c2
        obtain⟨c0,c1,c2⟩:=QC hbc12)
     | (go_at_call 164
        refine(hRA0 _).mono ?_
        clear hRA0
        rintro e w13 ⟨rfl,hk13⟩
        have hRo:Calls Tryz.prog 163 #[.pointer (some ⟨d,0,none⟩),.int .i64 2,.slice (some ⟨gu,0,none⟩) 128 cu] w13 _:=(hL12.keep0 hk13).rows (by omega) hb7 2 (by omega) gu cu bsu ((rd_keepN (Rd.of_own hu) hk12 (by rintro _ ⟨⟩;simp)).keep hk13) hcu (by simp))
     | (go_at_call 163
        refine hRo.mono ?_
        clear hRo
        rintro e w14 ⟨rfl,hL14,hk14⟩
        have hbc14:=(hbc12.keep0 hk13).keepN hk14 (by simp[hNc])
        clear c0 c1 c2
        obtain⟨c0,c1,c2⟩:=QC hbc14))
    have hkn14:=(KeepN.of0 hk11).trans (hk12.trans ((KeepN.of0 hk13).trans hk14))
    have hbR14:=hbR10.keepN hkn14 (by simp)
    have hsg14:SegsR w14 gS:=rd_keepN hsg10 hkn14 (by rintro _ ⟨⟩;simp)
    have hkn14N:=hkn10.trans (hkn14.sub (fun b hb=>by simp[hb]))
    clear hk11 hk12 hk13 hk14 hL12 hL11 hL10 hbc12 hbc10 hkn10 hrr10 hsg10 hbR10
    refine ZR (fun w'=>w'.cell? ⟨w.heap.size,0,none⟩=some (.int .i64 (B:Nat))∧w'.cell? ⟨w.heap.size,1,none⟩=some (.int .i64 8)∧w'.cell? ⟨w.heap.size,2,none⟩=some (.int .i64 24)) 6 (.held 0 (.held 1 (.held 3 (.held 4 (.two 2 (.loud 5 .nil) 5 (.loud 2 .nil)))))) ⟨c0,c1,c2⟩ ?_
    simp only[RT.pick,PJ]
    iterate 4 (refine ZK ?_;simp only[Act.put,PU])
    refine @ZAv (fun w' gz=>Keep [] w14 w'∧w14.heap.size≤gz∧gz<w'.heap.size∧Rd w' (some ⟨gz,0,none⟩) 128 (bys (List.replicate 128 0))) ?X2 _ (fun hR=>?_) ?_
    rotate_left
    · refine wpR_two ?_ ?_
      · refine wpR_loud (by rfl) (fun K hK=>?_)
        go_wp2_with (refine(hRA1 _).mono ?_;rintro e w15 ⟨rfl,hk15⟩)
        have hk15':=(Keep.refl [] w14).drew.trans0 hk15
        refine hK _ _ ((QC (hbc14.keep0 hk15'))) ?_
        clear hK K
        try simp only[Act.put,PU]
        refine wpR_loud (by rfl) (fun K hK=>?_)
        refine elem8N.wp1_make _ _ rfl .i64 .i64 128 rfl rfl (by omega) (by omega) ?_
        intro w16 gz hgz hsz hbz hkz
        refine hK _ _ ((QC ((hbc14.keep0 hk15').keep0 hkz))) ?_
        clear hK K
        try simp only[Act.put,PU]
        refine wpR_nil ?_
        exact hR w16 gz ⟨hk15'.trans0 hkz,by rw[hgz];exact hk15'.size,hbz.lt,XAi hbz⟩
      · refine wpR_loud (by rfl) (fun K hK=>?_)
        refine elem8N.wp1_make _ _ rfl .i64 .i64 128 rfl rfl (by omega) (by omega) ?_
        intro w15 gz hgz hsz hbz hkz
        have hlz:w14.heap.size≤gz:=by rw[hgz];exact(Keep.refl [] w14).drew.size
        clear hgz hsz
        have hk15':=(Keep.refl [] w14).drew.trans0 hkz
        refine hK _ _ ((QC (hbc14.keep0 hk15'))) ?_
        clear hK K
        try simp only[Act.put,PU]
        refine wpR_loud (by rfl) (fun K hK=>?_)
        go_wp2_with (refine(hRA1 _).mono ?_;rintro e w16 ⟨rfl,hk16⟩)
        refine hK _ _ ((QC ((hbc14.keep0 hk15').keep0 hk16))) ?_
        clear hK K
        try simp only[Act.put,PU]
        refine wpR_nil ?_
        exact hR w16 gz ⟨hk15'.trans0 hk16,hlz,by have:=hbz.lt;have:=hk16.size;omega,(XAi hbz).keep hk16⟩
    rintro w17 gz ⟨hk17,hz1,hz2,hrz⟩
    have hL17:=hL14.add hk17 hz1 hz2
    have hRo2:Calls Tryz.prog 163 #[.pointer (some ⟨d,0,none⟩),.int .i64 4,.slice (some ⟨gz,0,none⟩) 128 128] w17 _:=hL17.rows (by omega) hb7 4 (by omega) gz 128 _ hrz (by omega) (by simp)
    have hSBt:=fun W=>hSB W
    unfold VBD at hSBt
    go_wp2_with (first
     | (go_at_call 163
        refine hRo2.mono ?_
        clear hRo2
        rintro e w18 ⟨rfl,hL18,hk18⟩
        have hkn18:=(KeepN.of0 hk17).trans hk18
        have hbc18:=hbc14.keepN hkn18 (by simp[hNc])
        clear c0 c1 c2
        obtain⟨c0,c1,c2⟩:=QC hbc18)
     | (at_make
        refine elem8N.wp_make rfl _ _ rfl .i64 .i64 64 rfl rfl (by omega) (by omega) ?_
        intro w19 g19 hg19 hs19 hb19 hk19
        have hL19:=hL18.add hk19 (by omega) hb19.lt
        have hWr0:Calls Tryz.prog 237 #[.pointer (some ⟨d,0,none⟩),.int .i64 0,.slice (some ⟨g19,0,none⟩) 64 64] w19 _:=hL19.write (by omega) hb7 0 (by omega) g19 64 _ (XAi hb19) (by omega) (by simp)
        clear hg19 hs19)
     | (go_at_call 237;first
        | (refine hWr0.mono ?_
           clear hWr0
           rintro e w20 ⟨rfl,hL20,hk20⟩
           have hkn20:=(KeepN.of0 hk19).trans (hk20.sub (fun b hb=>List.mem_cons_of_mem _ hb))
           have hbc20:=hbc18.keepN hkn20 (by simp[hNc])
           clear c0 c1 c2
           obtain⟨c0,c1,c2⟩:=QC hbc20)
        | (refine hWr1.mono ?_
           clear hWr1
           rintro e w23 ⟨rfl,hL23,hk23⟩
           have hkn23:=(KeepN.of0 hk21).trans (hk22.trans hk23)))
     | (go_at_call 239
        refine(hSBt _).mono ?_
        clear hSBt
        rintro e w21 ⟨u21,rfl,hk21,bs21,hl21,hu21⟩
        obtain⟨g21,c21,rfl,hc21⟩:=ZG hu21 (by omega)
        have hg21:=own_mem hu21 (g:=g21) (by simp[Value.ownBlock])
        have hL21:=hL20.add hk21 hg21.1 hg21.2
        have hMe2:=hL21.mean (by omega) hb7 (some ⟨g21,0,none⟩) 64 c21)
     | (go_at_call 162
        refine hMe2.mono ?_
        clear hMe2
        rintro e w22 ⟨rfl,hL22,hk22⟩
        have hWr1:Calls Tryz.prog 237 #[.pointer (some ⟨d,0,none⟩),.int .i64 1,.slice (some ⟨g21,0,none⟩) 64 c21] w22 _:=hL22.write (by omega) hb7 1 (by omega) g21 c21 bs21 (rd_keepN (Rd.of_own hu21) hk22 (by rintro _ ⟨⟩;simp)) hc21 (by simp)))
    have htot:=hkn18.trans (hkn20.trans (hkn23.sub (fun b hb=>List.mem_cons_of_mem _ (List.mem_cons_of_mem _ hb))))
    have hbR23:=(hbR14.keepN htot (by simp)).drew
    have hsg23:SegsR w23.drew gS:=(rd_keepN hsg14 htot (by rintro _ ⟨⟩;simp)).drew
    have hkn23N:=(hkn14N.trans (htot.sub (fun b hb=>by simp[hb]))).trans (KeepN.of0 (Keep.refl _ _).drew)
    have hb623:=hb67.keepN hkn23N hN6
    have hFl:=(hL23.keep0 (Keep.refl _ _).drew).flush (by omega)
    have hrg:w23.drew.rangeAt gR 0 [.int .i64 1,.int .i64 1,.int .i64 1,.int .i64 0,.int .i64 0,.int .i64 0,.int .i64 0,.int .i64 0,.int .i64 1,.int .i64 0,.int .i64 1,.slice (some ⟨gB,0,none⟩) P P,.slice (some ⟨gO,0,none⟩) P P,.slice (some ⟨gS,0,none⟩) 8 8]:=hbR23.range
    clear hL23 hL22 hL21 hL20 hL19 hL18 hL17 hL14 hk23 hk22 hk21 hk20 hk19 hk18 hk17 hkn18 hkn20 hkn23 hbc18 hbc20 hbR14 hsg14 hkn14N c0 c1 c2
    refine ZT (fun w'=>w'.rangeAt gR 0 [.int .i64 1,.int .i64 1,.int .i64 1,.int .i64 0,.int .i64 0,.int .i64 0,.int .i64 0,.int .i64 0,.int .i64 1,.int .i64 0,.int .i64 1,.slice (some ⟨gB,0,none⟩) P P,.slice (some ⟨gO,0,none⟩) P P,.slice (some ⟨gS,0,none⟩) 8 8]) 3 [[0,1],[2]] hrg ?_
    simp only[PI]
    refine KM _ (by rfl) (fun W hW=>ZX _ _ rfl _ rfl (JAq gR [.int .i64 1,.int .i64 1,.int .i64 1,.int .i64 0,.int .i64 0,.int .i64 0,.int .i64 0,.int .i64 0,.int .i64 1,.int .i64 0,.int .i64 1,.slice (some ⟨gB,0,none⟩) P P,.slice (some ⟨gO,0,none⟩) P P,.slice (some ⟨gS,0,none⟩) 8 8] rfl W hW)) ?_
    try simp only[Act.put,PU]
    iterate 1 (refine ZH ?_;simp only[Act.put,PU])
    refine XB (by rfl) (fun K hK=>?_)
    go_wp2_with (
     refine hFl.mono ?_
     clear hFl
     rintro e w24 ⟨rfl,hk24,hkn24⟩
     have hbR24:=hbR23.keepN hkn24 (by simp)
     have hsg24:SegsR w24 gS:=rd_keepN hsg23 hkn24 (by rintro _ ⟨⟩;simp)
     have hb624:=hb623.keepN hkn24 (by simp[hN6]))
    refine hK _ _ (hbR24.range) ?_
    clear hK K
    try simp only[Act.put,PU]
    refine JB ?_
    have nG:gS≠w.heap.size+1:=by
     have:=hNlt _ hN6
     omega
    refine XX rfl _ _ _ rfl _ _ rfl rfl (ZAA (w.heap.size+1) [.int .i64 1,.int .i64 1,.int .i64 1,.int .i64 0,.int .i64 0,.int .i64 0,.int .i64 0,.int .i64 0,.int .i64 1,.int .i64 0,.int .i64 1,.slice (some ⟨gB,0,none⟩) P P,.slice (some ⟨gO,0,none⟩) P P,.slice (some ⟨gS,0,none⟩) 8 8] rfl (by simp[Value.oneCell']) w24 (VX hb624 14 (by simp))) ?_
    have hb625:=hb624.all [.int .i64 1,.int .i64 1,.int .i64 1,.int .i64 0,.int .i64 0,.int .i64 0,.int .i64 0,.int .i64 0,.int .i64 1,.int .i64 0,.int .i64 1,.slice (some ⟨gB,0,none⟩) P P,.slice (some ⟨gO,0,none⟩) P P,.slice (some ⟨gS,0,none⟩) 8 8] (by simp)
    have hk25:=Keep.setCells (g:=w.heap.size+1) [.int .i64 1,.int .i64 1,.int .i64 1,.int .i64 0,.int .i64 0,.int .i64 0,.int .i64 0,.int .i64 0,.int .i64 1,.int .i64 0,.int .i64 1,.slice (some ⟨gB,0,none⟩) P P,.slice (some ⟨gO,0,none⟩) P P,.slice (some ⟨gS,0,none⟩) 8 8] 0 (Keep.refl [w.heap.size+1] w24) (.inl (by simp))
    generalize w24.setCells (w.heap.size+1) 0 [.int .i64 1,.int .i64 1,.int .i64 1,.int .i64 0,.int .i64 0,.int .i64 0,.int .i64 0,.int .i64 0,.int .i64 1,.int .i64 0,.int .i64 1,.slice (some ⟨gB,0,none⟩) P P,.slice (some ⟨gO,0,none⟩) P P,.slice (some ⟨gS,0,none⟩) 8 8]=w25 at *
    obtain⟨g0,g1,g2,g3,g4,g5,g6,g7,g8,g9,g10,g11,g12,g13⟩:=cells14 hb625
    go_wp2_with fail
    exact bodyPost_ret (v:=.tuple #[.agg #[.int .i64 1,.int .i64 1,.int .i64 1,.int .i64 0,.int .i64 0,.int .i64 0,.int .i64 0,.int .i64 0,.int .i64 1,.int .i64 0,.int .i64 1,.slice (some ⟨gB,0,none⟩) P P,.slice (some ⟨gO,0,none⟩) P P,.slice (some ⟨gS,0,none⟩) 8 8],.int .i64 0]) (by simp[results,Tryz.results131,go_sem,g0,g1,g2,g3,g4,g5,g6,g7,g8,g9,g10,g11,g12,g13]) rfl ⟨some ⟨gB,0,none⟩,P,some ⟨gO,0,none⟩,P,gS,rfl,hsg24.keepIf hk25 (by rintro _ ⟨⟩;simpa using nG),(hkH.zero.trans hk24 (fun x hx=>.inl hx)).trans hk25 (fun x hx=>.inr (by simp at hx;omega))⟩
end
end Go.Proofs.YthgphmfipnjllaaGreat
