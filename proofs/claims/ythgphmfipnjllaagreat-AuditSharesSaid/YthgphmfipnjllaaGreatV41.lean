/- Lemmas of the proof, with their conditions. -/
import Derived.Test.YthgphmfipnjllaaGreatV40
import Derived.Test.YthgphmfipnjllaaGreatV33
namespace Go.Proofs.YthgphmfipnjllaaGreat
set_option linter.unusedSimpArgs false
set_option linter.unusedVariables false
set_option maxHeartbeats 2000000
set_option maxRecDepth 20000
section
open Go.RowKit
def mv (P:Nat):List Value:=List.replicate P (.int .i64 (-1))
structure ImgIs (w:World) (base m:Nat) (V1 V2 V3 V4:Value) (Fi:List Nat) (B:Nat):Prop where
 blk:Blk w m 307 #[V1,V2,V3,V4]
 own1:w.ownsRow base 3 1 V1 B (zv B)
 own2:w.ownsRow base 3 1 V2 B (mv B)
 len3:∃ A c,V3=.slice A (pgs B) c
 len4:∃ A c,V4=.slice A (pgs B) c
 base:base≤m
 foot:Fi=m :: (V1.ownBlock.toList++V2.ownBlock.toList)
def ImgAt (w:World) (base m:Nat) (Fi:List Nat) (B:Nat):Prop:=∃ V1 V2 V3 V4,ImgIs w base m V1 V2 V3 V4 Fi B
namespace ImgAt
variable {w w':World} {base m:Nat} {Fi l:List Nat} {B:Nat}
theorem keep (h:ImgAt w base m Fi B) (hk:Keep l w w') (ha:Apart Fi l):ImgAt w' base m Fi B:=by
 obtain⟨V1,V2,V3,V4,h⟩:=h
 have hf:=h.foot
 exact⟨V1,V2,V3,V4,h.blk.keep hk (ha m (by simp[hf])),KA h.own1 hk (fun g hg=>ha g (by simp[hf,hg])),KA h.own2 hk (fun g hg=>ha g (by simp[hf,hg])),h.len3,h.len4,h.base,hf⟩
theorem lt (h:ImgAt w base m Fi B):∀ x∈Fi,x<w.heap.size:=by
 obtain⟨V1,V2,V3,V4,h⟩:=h
 rw[h.foot]
 intro x hx
 simp only[List.mem_cons,List.mem_append] at hx
 rcases hx with rfl | hx | hx
 · exact h.blk.lt
 · exact(own_mem h.own1 hx).2
 · exact(own_mem h.own2 hx).2
theorem ge (h:ImgAt w base m Fi B):∀ x∈Fi,base≤x:=by
 obtain⟨V1,V2,V3,V4,h⟩:=h
 rw[h.foot]
 intro x hx
 simp only[List.mem_cons,List.mem_append] at hx
 rcases hx with rfl | hx | hx
 · exact h.base
 · exact(own_mem h.own1 hx).1
 · exact(own_mem h.own2 hx).1
end ImgAt
theorem Qs {w:World} {g:Nat} {t:TypeId} {x0 x1 x2 x3:Value} (h:Blk w g t #[x0,x1,x2,x3]) :
 w.cell? ⟨g,0,none⟩=some x0∧w.cell? ⟨g,1,none⟩=some x1∧w.cell? ⟨g,2,none⟩=some x2∧w.cell? ⟨g,3,none⟩=some x3:=
 ⟨by simpa using h.cell 0,by simpa using h.cell 1,by simpa using h.cell 2,by simpa using h.cell 3⟩
theorem JAB (B:Nat) (h1:1≤B) (h2:B≤64) (w:World):Calls Tryz.prog 133 #[.int .i64 (B:Nat)] w fun e w'=>∃ m Fi,e=.returned (.pointer (some ⟨m,0,none⟩))∧ImgAt w' w.heap.size m Fi B∧Keep [] w w':=by
 have hW:=fun W=>ZE (B:Nat) 1 64 true (by simp;omega) W
 have hU:∀ W,Calls Tryz.prog 240 #[.int .i64 (B:Nat),.int .i64 15] W fun e w'=>e=.returned (.int .i64 (pgs B:Nat))∧W=w':=fun W=>QAd B 15 (pgs B) (by omega) (by omega) (by unfold pgs;omega) W
 have hpb:=(KC h1 h2).2
 obtain⟨P,hPg⟩:∃ P,P=pgs B:=⟨_,rfl⟩
 rw[← hPg] at hU hpb
 have HP:=ZB hPg
 clear hPg
 go_enter Tryz.func133,Tryz.ntmps133
 go_wp2_with (first
  | (go_at_call 226;refine(hW _).mono ?_;clear hW;rintro e w' ⟨rfl,rfl⟩)
  | (at_make;refine elemIntsN.wp_make rfl _ _ rfl .i64 .i64 B rfl rfl (by omega) (by omega) ?_;intro w1 g1 hg1 hs1 hb1 hk1;subst hg1))
 have hv1:w1.ownsRow w.heap.size 3 1 (.slice (some ⟨w.heap.size,0,none⟩) B B) B (zv B):=XL (e:=3) (s:=1) (z:=.int .i64 0) hb1 (by omega) (by omega) (by omega) (by simp[zv]) rfl
 have hB:=Blk.new w1 307 #[.slice (some ⟨w.heap.size,0,none⟩) B B,.slice none 0 0,.slice none 0 0,.slice none 0 0]
 have hkA:Keep [] w (w1.alloc (.cells #[.slice (some ⟨w.heap.size,0,none⟩) B B,.slice none 0 0,.slice none 0 0,.slice none 0 0] 307)):=hk1.alloc _
 have hv2:=YD hv1 (.cells #[.slice (some ⟨w.heap.size,0,none⟩) B B,.slice none 0 0,.slice none 0 0,.slice none 0 0] 307)
 generalize hwA:w1.alloc (.cells #[.slice (some ⟨w.heap.size,0,none⟩) B B,.slice none 0 0,.slice none 0 0,.slice none 0 0] 307)=wA at *
 rw[hs1] at hB
 clear hv1 hk1 hs1 hb1
 obtain⟨m,hm⟩:∃ m,m=w.heap.size+1:=⟨_,rfl⟩
 rw[← hm] at hB
 go_wp2_with fail
 try rw[hwA]
 try rw[← hm]
 clear hwA
 have HM:=ZB hm
 clear hm
 go_loopw [4] (fun i wr=>∃ (k:Nat) (V:Value),k≤B∧i=.int .i64 (k:Nat)∧Blk wr m 307 #[.slice (some ⟨w.heap.size,0,none⟩) B B,V,.slice none 0 0,.slice none 0 0] ∧
  wr.ownsRow w.heap.size 3 1 V k (mv k)∧wr.ownsRow w.heap.size 3 1 (.slice (some ⟨w.heap.size,0,none⟩) B B) B (zv B)∧w.heap.size∉V.ownBlock.toList∧Keep [] w wr) (fun i _=>B-(intOf i).toNat)
 case atStart=>exact⟨0,.slice none 0 0,Nat.zero_le _,rfl,hB,World.ownsRow_nil _ _ _ _,hv2,by simp[Value.ownBlock],hkA⟩
 case round=>
  clear hB hv2 hkA
  obtain⟨k,V,hk,rfl,hbr,hvr,hzr,hnr,hkr⟩:=hrel
  obtain⟨c0,c1,c2,c3⟩:=Qs hbr
  by_cases hlt:k<B
  · have hltI:((k:Nat):Int)<(B:Nat):=by omega
    have hmV:m∉V.ownBlock.toList:=fun hm=>own_blk_ne hvr hbr (by decide) (by simpa using hm)
    have hkB:Keep [] wr (wr.alloc (.cells #[.int .i64 (-1)] 3)):=(Keep.refl _ _).alloc _
    go_wp2_with (at_builtin;refine elemInts.wp_app rfl (.tmp 22) (.tmp 23) (by rfl) w.heap.size V k (mv k) (by rfl) (ZA hvr hkB) (some ⟨wr.heap.size,0,none⟩) 1 1 [.int .i64 (-1)] (by rfl) (KO wr (.int .i64 (-1)) 3) (by simp[Value.oneCell']) (by omega) (by omega) (Nat.le_trans hkr.size hkB.size) ?_;intro V' w4 hS' hk4 hSb _;have hblk4:=(hbr.keep0 hkB).keep hk4 hmV;have f1:=hblk4.frozen 1;obtain⟨j0,j1,j2,j3⟩:=Qs hblk4;obtain⟨SA,sc,rfl,_⟩:=QB hS')
    obtain⟨V',hV'⟩:∃ V',V'=Value.slice SA (k+1) sc:=⟨_,rfl⟩
    rw[← hV'] at hS' hSb ⊢
    have hb5:=hblk4.set 1 V'
    have hk5:Keep [m] w4 (w4.setCell ⟨m,1,none⟩ V'):=(Keep.refl _ _).setCell (p:=⟨m,1,none⟩) (.inl (by simp)) _
    have hwsz:=hkr.size
    have hmlt:=hbr.lt
    have hm1:=QA HM
    have hmV':m∉V'.ownBlock.toList:=fun hm=>by
     rcases hSb with e | e
     · rw[e] at hm;exact hmV hm
     · rw[e] at hm;simp at hm;omega
    have hnV':w.heap.size∉V'.ownBlock.toList:=fun hm=>by
     rcases hSb with e | e
     · rw[e] at hm;exact hnr hm
     · rw[e] at hm;simp at hm;omega
    have hz5:=KA (KA (ZA hzr hkB) hk4 (fun x hx hm=>by simp[Value.ownBlock] at hx;subst hx;exact hnr hm)) hk5 (fun x hx hm=>by simp at hm;subst hm;simp[Value.ownBlock] at hx;omega)
    have hS5:=KA hS' hk5 (fun x hx hm=>by simp at hm;subst hm;exact hmV' (by simpa using hx))
    have hkZ:Keep [] w (w4.setCell ⟨m,1,none⟩ V'):=((hkr.trans0 hkB).trans hk4 (fun x hx=>.inr (own_mem hvr hx).1)).trans hk5 (fun x hx=>.inr (by simp at hx;omega))
    have hmv:mv k++[.int .i64 (-1)]=mv (k+1):=by simp[mv,List.replicate_succ']
    rw[hmv] at hS5
    go_roundw
    case rel=>exact⟨k+1,_,by omega,by go_num,by simpa using hb5,hS5,hz5,hnV',hkZ⟩
    case measure=>simp[intOf];omega
  · obtain rfl:k=B:=by omega
    go_wp2_with (refine(hU _).mono ?_;clear hU;rintro e w' ⟨rfl,rfl⟩)
    refine ZT (fun _=>True) 5 [[0,1,3,4],[2]] trivial ?_
    simp only[PI]
    iterate 4 (refine ZH ?_;simp only[Act.put,PU])
    refine XB (by rfl) (fun K hK=>?_)
    refine elemBool.wp1_make _ _ rfl .i64 .i64 P rfl rfl (by omega) (by omega) ?_
    intro w2 g2 hg2 hs2 hb2 hk2
    obtain rfl:g2=wr.heap.size:=hg2
    clear hs2
    have hkB:Keep [] wr w2:=(Keep.refl _ _).drew.trans0 hk2
    have hb2':=hbr.keep0 hkB
    have f2:=hb2'.frozen 2
    obtain⟨e0,e1,e2,e3⟩:=Qs hb2'
    refine hK _ _ (trivial) ?_
    clear hK K
    try simp only[Act.put,PU]
    refine JB ?_
    have hb3:=hb2'.set 2 (.slice (some ⟨wr.heap.size,0,none⟩) P P)
    have hk3:Keep [m] w2 (w2.setCell ⟨m,2,none⟩ (.slice (some ⟨wr.heap.size,0,none⟩) P P)):=(Keep.refl _ _).setCell (p:=⟨m,2,none⟩) (.inl (by simp)) _
    go_wp2_with fail
    have hkC:Keep [] w (w2.setCell ⟨m,2,none⟩ (.slice (some ⟨wr.heap.size,0,none⟩) P P)):=(hkr.trans0 hkB).trans hk3 (fun x hx=>.inr (by simp at hx;have:=QA HM;omega))
    have hS3:=KA (ZA hvr hkB) hk3 (fun x hx hm=>by simp at hm;subst hm;exact own_blk_ne hvr hbr (by decide) hx)
    have hz3:=KA (ZA hzr hkB) hk3 (fun x hx hm=>by simp at hm;subst hm;exact own_blk_ne hzr hbr (by decide) hx)
    generalize w2.setCell ⟨m,2,none⟩ (.slice (some ⟨wr.heap.size,0,none⟩) P P)=w3 at *
    generalize wr.heap.size=q3 at *
    replace hb3:Blk w3 m 307 #[.slice (some ⟨w.heap.size,0,none⟩) k k,V,.slice (some ⟨q3,0,none⟩) P P,.slice none 0 0]:=by simpa using hb3
    clear hk3 hb2' f2 e0 e1 e2 e3 hb2 hk2 hkB c0 c1 c2 c3
    refine ZT (fun _=>True) 5 [[0,1,3,4],[2]] trivial ?_
    simp only[PI]
    iterate 4 (refine ZH ?_;simp only[Act.put,PU])
    refine XB (by rfl) (fun K hK=>?_)
    refine elemBool.wp1_make _ _ rfl .i64 .i64 P rfl rfl (by omega) (by omega) ?_
    intro w4 g2 hg2 hs2 hb2 hk2
    obtain rfl:g2=w3.heap.size:=hg2
    clear hs2
    have hkB:Keep [] w3 w4:=(Keep.refl _ _).drew.trans0 hk2
    have hb2':=hb3.keep0 hkB
    have f2:=hb2'.frozen 3
    obtain⟨e0,e1,e2,e3⟩:=Qs hb2'
    refine hK _ _ (trivial) ?_
    clear hK K
    try simp only[Act.put,PU]
    refine JB ?_
    have hb5:=hb2'.set 3 (.slice (some ⟨w3.heap.size,0,none⟩) P P)
    have hk5:Keep [m] w4 (w4.setCell ⟨m,3,none⟩ (.slice (some ⟨w3.heap.size,0,none⟩) P P)):=(Keep.refl _ _).setCell (p:=⟨m,3,none⟩) (.inl (by simp)) _
    go_wp2_with fail
    go_ret
    have hS5:=KA (ZA hS3 hkB) hk5 (fun x hx hm=>by simp at hm;subst hm;exact own_blk_ne hS3 hb3 (by decide) hx)
    have hz5:=KA (ZA hz3 hkB) hk5 (fun x hx hm=>by simp at hm;subst hm;exact own_blk_ne hz3 hb3 (by decide) hx)
    have hP:=QA HP
    refine⟨m,_,rfl,⟨_,_,_,_,⟨by simpa using hb5,hz5,hS5,⟨_,_,by rw[hP]⟩,⟨_,_,by rw[hP]⟩,by have:=QA HM;omega,rfl⟩⟩,(hkC.trans0 hkB).trans hk5 (fun x hx=>.inr (by simp at hx;have:=QA HM;omega))⟩
end
section
open Go.RowKit
def vOf (o:Bool):Int:=if o then -1 else 0
theorem KBB (w:World) (base m:Nat) (Fi:List Nat) (B:Nat) (h0:1≤B) (h:ImgAt w base m Fi B) (o:Bool):Calls Tryz.prog 324 #[.pointer (some ⟨m,0,none⟩),.bool o] w fun e w'=>∃ g c k,e=.returned (.tuple #[.slice (some ⟨g,0,none⟩) B c,.int .i64 k])∧w.ownsRow base 3 1 (.slice (some ⟨g,0,none⟩) B c) B (List.replicate B (.int .i64 (vOf o)))∧B≤c∧w=w':=by
 obtain⟨V1,V2,V3,V4,h⟩:=h
 obtain⟨c0,c1,c2,c3⟩:=Qs h.blk
 obtain⟨g1,q1,rfl,hq1⟩:=ZG h.own1 (by omega)
 obtain⟨g2,q2,rfl,hq2⟩:=ZG h.own2 (by omega)
 cases o
 · go_enter Tryz.func324,Tryz.ntmps324
   go_wp2
   go_ret2
   exact⟨g1,q1,0,rfl,h.own1,hq1,rfl⟩
 · go_enter Tryz.func324,Tryz.ntmps324
   go_wp2
   go_ret2
   exact⟨g2,q2,1,rfl,h.own2,hq2,rfl⟩
theorem JAz {w:World} {base g c B lo hi:Nat} {v:Value} (ho:w.ownsRow base 3 1 (.slice (some ⟨g,0,none⟩) B c) B (List.replicate B v)) (hc:B≤c) (h2:hi≤B) (h3:lo<hi):Rd (w.alloc (.cells #[] 3)) (some ⟨g,lo,none⟩) (hi-lo) (List.replicate (hi-lo) v):=by
 have h:=(((Rd.of_own ho).cut (k:=lo) (by omega) hc).take (k:=hi-lo) (by omega)).keep ((Keep.refl _ _).alloc (.cells #[] 3))
 rw[if_neg (by omega),List.drop_replicate,List.take_replicate,Nat.min_eq_left (by omega)] at h
 simpa [Addr.add_mid] using h
theorem QBD (w:World) (base m:Nat) (Fi:List Nat) (B:Nat) (h1:1≤B) (h2:B≤64) (h:ImgAt w base m Fi B) (o:Bool) (p:Nat) (hp:p<pgs B):Calls Tryz.prog 236 #[.pointer (some ⟨m,0,none⟩),.bool o,.int .i64 (p:Nat)] w fun e w'=>∃ A n c,e=.returned (.slice A n c)∧n≤15∧Rd w' A n (List.replicate n (.int .i64 (vOf o)))∧Keep [] w w':=by
 have hT:=KBB w base m Fi B h1 h o
 obtain⟨V1,V2,V3,V4,h⟩:=h
 obtain⟨c0,c1,c2,c3⟩:=Qs h.blk
 obtain⟨A3,q3,hV3⟩:=h.len3
 rw[hV3] at c2
 have hpb:15*pgs B≤B+14∧pgs B≤5:=by unfold pgs;omega
 obtain⟨P,hPg⟩:∃ P,P=pgs B:=⟨_,rfl⟩
 rw[← hPg] at hp hpb c2
 have hW:=fun W=>ZE (p:Nat) 0 ((P:Nat)-1) true (by simp;omega) W
 have HP:=ZB hPg
 clear hPg h hV3
 obtain⟨hi,hhi⟩:∃ hi:Nat,min (((p:Nat)+1)*15:Int) (B:Nat)=(hi:Nat)∧hi≤B∧p*15<hi∧hi≤p*15+15:=⟨min ((p+1)*15) B,by omega,by omega,by omega,by omega⟩
 obtain⟨hh1,hh2,hh3,hh4⟩:=hhi
 go_enter Tryz.func236,Tryz.ntmps236
 go_wp2_with (first
  | (go_at_call 324;refine hT.mono ?_;clear hT;rintro e w' ⟨g,c,k,rfl,ho,hBc,rfl⟩)
  | (go_at_call 226;refine(hW _).mono ?_;clear hW;rintro e w' ⟨rfl,rfl⟩)
  | (at_builtin;refine elemInts.wp_app rfl (.tmp 25) (.tmp 35) (by rfl) w.heap.size (.slice (some ⟨w.heap.size,0,none⟩) 0 0) 0 [] (by rfl) (VM (Blk.new w 3 #[]) (Nat.le_refl _) (by omega) (by simp) (by simp)) (some ⟨g,p*15,none⟩) (hi-p*15) (c-p*15) (List.replicate (hi-p*15) (.int .i64 (vOf o))) (by rfl) (JAz ho hBc hh2 hh3) (by simp[Value.oneCell']) (by omega) (by omega) (by simp) ?_;intro V' w4 hS' hk4 hSb _;rw[List.nil_append] at hS';obtain⟨A',c',rfl,_⟩:=QB hS'))
 go_ret
 have hkA:Keep [] w (w.alloc (.cells #[] 3)):=(Keep.refl _ _).alloc _
 have hrd:=Rd.of_own hS'
 rw[Nat.zero_add] at hrd
 exact⟨A',_,c',rfl,by omega,hrd,hkA.trans hk4 (fun x hx=>.inr (by simp[Value.ownBlock] at hx;omega))⟩
theorem YAN (A:Option Addr) (n c:Nat) (v:Int) (hv:v=0∨v = -1) (hn:n≤15) (w:World) (h:Rd w A n (List.replicate n (.int .i64 v))):Calls Tryz.prog 235 #[.slice A n c] w fun e w'=>∃ u,e=.returned (.tuple #[u,.int .i64 0])∧Keep [] w w'∧VAK w 64 u w':=by
 have hN:=YBG 64 (by omega) w
 have hW:=fun W=>ZE v (-1) 4095 true (by simp;omega) W
 obtain⟨z,hz⟩:∃ z:Nat,v % 4294967296=(z:Nat)∧z<4294967296:=⟨(v % 4294967296).toNat,by omega,by omega⟩
 have hM:=fun W=>YAG v 4294967296 W (by omega) (by omega)
 simp only[hz.1] at hM
 have hz2:=hz.2
 clear hz
 have hn15:((n:Nat):Int)≤15:=by omega
 go_enter Tryz.func235,Tryz.ntmps235
 go_wp2_with (refine hN.mono ?_;clear hN;rintro e w1 ⟨g,u,rfl,hR⟩)
 go_loopw [5] (fun i wr=>∃ k:Nat,k≤n∧i=.int .i64 k∧RowN w wr g u 64 (4*k)) (fun i _=>n-(intOf i).toNat)
 case atStart=>exact⟨0,Nat.zero_le _,rfl,hR⟩
 case round=>
  clear hR
  obtain⟨k,hk,rfl,hR⟩:=hrel
  by_cases hlt:k<n
  · obtain⟨b,o,y,rfl,hx,hb,hc⟩:=(h.keep hR.1).at_ hlt
    simp only[List.getElem?_replicate] at hx
    rw[if_pos hlt] at hx
    cases hx
    have hP:=ZBA hR 4 z (by omega) (by simpa using hz2) (by omega)
    go_wp2_with (first
     | (go_at_call 226;refine(hW _).mono ?_;rintro e w' ⟨rfl,rfl⟩)
     | (go_at_call 49;refine(hM _).mono ?_;rintro e w' ⟨rfl,rfl⟩)
     | (go_at_call 271;refine hP.mono ?_;clear hP;rintro e w2 ⟨rfl,hR2⟩))
    go_round
    case rel=>exact⟨k+1,by omega,by go_num,hR2⟩
    case measure=>simp[intOf];omega
  · obtain rfl:k=n:=by omega
    have hC:=XAd hR
    go_wp2_with (refine hC.mono ?_;clear hC;rintro e w2 ⟨rfl,hk2,hu⟩)
    go_ret2
    exact⟨u,rfl,hk2,hu⟩
end
section
open Go.RowKit
theorem YBB {P X:World→Nat→Nat→Prop} {G:Prop} (f:(∀ a b c,P a b c→X a b c)→G) (r:∀ a b c,P a b c→X a b c):G:=f r
theorem VAD {w:World} {g:Nat} (h:Blk w g 166 (madeCells (Value.agg #[.int .i64 0,.int .i64 0]).cells (8*2))):Blk w g 166 (Array.replicate 16 (.int .i64 0)):=by
 rw[show (Value.agg #[.int .i64 0,.int .i64 0]).cells=Array.replicate 2 (.int .i64 0) from rfl,QN _ _ _ (by omega)] at h
 exact h
theorem QAT (w:World) (B d t:Nat):Calls Tryz.prog 134 #[.pointer (some ⟨d,0,none⟩),VV B,.pointer (some ⟨t,0,none⟩),pos0] w fun e w'=>∃ x,e=.returned (.pointer (some ⟨x,0,none⟩))∧Keep [] w w':=by
 have hP:=fun W=>QAe W B
 have hbc:=Blk.new w 27 #[.int .i64 B,.int .i64 8,.int .i64 24]
 have hbp:=Blk.new (w.alloc (.cells #[.int .i64 B,.int .i64 8,.int .i64 24] 27)) 72 #[.int .i64 0,.int .i64 0,.int .i64 1,.int .i64 0,.int .i64 1]
 rw[show (w.alloc (.cells #[.int .i64 B,.int .i64 8,.int .i64 24] 27)).heap.size=w.heap.size+1 by simp] at hbp
 replace hbc:=hbc.keep0 ((Keep.refl _ _).alloc (.cells #[.int .i64 0,.int .i64 0,.int .i64 1,.int .i64 0,.int .i64 1] 72))
 have hk0:Keep [] w ((w.alloc (.cells #[.int .i64 B,.int .i64 8,.int .i64 24] 27)).alloc (.cells #[.int .i64 0,.int .i64 0,.int .i64 1,.int .i64 0,.int .i64 1] 72)):=((Keep.refl _ _).alloc _).alloc _
 obtain⟨c0,c1,c2⟩:=QC hbc
 obtain⟨p0,p1,p2,p3,p4⟩:=cells5 hbp
 unfold VV pos0 at *
 go_enter Tryz.func134,Tryz.ntmps134
 go_wp2_with (refine(hP _).mono ?_;clear hP;rintro e w1 ⟨rfl,hk1⟩;replace hbc:=hbc.keep0 hk1;replace hbp:=hbp.keep0 hk1;clear c0 c1 c2 p0 p1 p2 p3 p4;obtain⟨c0,c1,c2⟩:=QC hbc;obtain⟨p0,p1,p2,p3,p4⟩:=cells5 hbp)
 go_ret
 exact⟨_,rfl,(hk0.trans0 hk1).alloc _⟩
theorem ZAW (w:World) (B G:Nat) (hs:SegsR w G):Calls Tryz.prog 132 #[VV B,.slice (some ⟨G,0,none⟩) 8 8] w fun e w'=>∃ x,e=.returned (.pointer (some ⟨x,0,none⟩))∧Keep [] w w':=by
 have hW0:∀ W,Calls Tryz.prog 226 #[.int .i64 0,.int .i64 0,.int .i64 2147483647] W fun e w'=>e=.returned (.bool true)∧W=w':=fun W=>ZE 0 0 2147483647 true (by simp) W
 have hbc:=Blk.new w 27 #[.int .i64 B,.int .i64 8,.int .i64 24]
 have hk0:Keep [] w (w.alloc (.cells #[.int .i64 B,.int .i64 8,.int .i64 24] 27)):=(Keep.refl _ _).alloc _
 obtain⟨c0,c1,c2⟩:=QC hbc
 unfold VV
 go_enter Tryz.func132,Tryz.ntmps132
 go_wp2_with fail
 refine ZR (fun w'=>w'.cell? ⟨w.heap.size,0,none⟩=some (.int .i64 (B:Nat))∧w'.cell? ⟨w.heap.size,1,none⟩=some (.int .i64 8)∧w'.cell? ⟨w.heap.size,2,none⟩=some (.int .i64 24)) 7 (.held 0 (.held 1 (.held 2 (.held 4 (.held 5 (.two 3 (.loud 6 .nil) 6 (.loud 3 .nil))))))) ⟨c0,c1,c2⟩ ?_
 simp only[RT.pick,PJ]
 iterate 5 (refine ZK ?_;simp only[Act.put,PU])
 refine @YBB (fun(w3:World) (g2 g3:Nat)=>(Keep [] w w3∧w.heap.size≤g2∧(∃ cs:Array Value,cs.size=16∧Blk w3 g2 166 cs)∧Blk w3 w.heap.size 27 #[.int .i64 B,.int .i64 8,.int .i64 24])) ?X _ (fun hR=>?_) ?_
 rotate_left
 · refine wpR_two ?_ ?_
   · refine wpR_loud (by rfl) (fun K hK=>?_)
     refine elemUse.wp1_make _ _ rfl .i64 .i64 8 rfl rfl (by omega) (by omega) ?_
     intro w2 g2 hg2 hs2 hb2 hk2
     refine hK _ _ ((QC (hbc.drew.keep0 hk2))) ?_
     clear hK K
     try simp only[Act.put,PU]
     refine wpR_loud (by rfl) (fun K hK=>?_)
     refine elemIntsN.wp1_make _ _ rfl .i64 .i64 8 rfl rfl (by omega) (by omega) ?_
     intro w3 g3 hg3 hs3 hb3 hk3
     refine hK _ _ ((QC ((hbc.drew.keep0 hk2).keep0 hk3))) ?_
     clear hK K
     try simp only[Act.put,PU]
     refine wpR_nil ?_
     exact hR w3 g2 g3 ⟨(hk0.drew.trans0 hk2).trans0 hk3,by rw[hg2];exact hk0.drew.size,⟨_,by simp,(VAD hb2).keep0 hk3⟩,(hbc.drew.keep0 hk2).keep0 hk3⟩
   · refine wpR_loud (by rfl) (fun K hK=>?_)
     refine elemIntsN.wp1_make _ _ rfl .i64 .i64 8 rfl rfl (by omega) (by omega) ?_
     intro w2 g3 hg3 hs2 hb2 hk2
     refine hK _ _ ((QC (hbc.drew.keep0 hk2))) ?_
     clear hK K
     try simp only[Act.put,PU]
     refine wpR_loud (by rfl) (fun K hK=>?_)
     refine elemUse.wp1_make _ _ rfl .i64 .i64 8 rfl rfl (by omega) (by omega) ?_
     intro w3 g2 hg2 hs3 hb3 hk3
     refine hK _ _ ((QC ((hbc.drew.keep0 hk2).keep0 hk3))) ?_
     clear hK K
     try simp only[Act.put,PU]
     refine wpR_nil ?_
     exact hR w3 g2 g3 ⟨(hk0.drew.trans0 hk2).trans0 hk3,by rw[hg2];exact(hk0.drew.trans0 hk2).size,⟨_,by simp,VAD hb3⟩,(hbc.drew.keep0 hk2).keep0 hk3⟩
 rintro w3 g2 g3 ⟨hk3,hge,⟨cs,hcs,hb2⟩,hbc3⟩
 have hkA:Keep [] w3 (w3.alloc (.cells #[.int .i64 B,.int .i64 8,.int .i64 24,.slice (some ⟨g2,0,none⟩) 8 8,.slice (some ⟨g3,0,none⟩) 8 8] 304)):=(Keep.refl _ _).alloc _
 have hbT:=Blk.new w3 304 #[.int .i64 B,.int .i64 8,.int .i64 24,.slice (some ⟨g2,0,none⟩) 8 8,.slice (some ⟨g3,0,none⟩) 8 8]
 obtain⟨e0,e1,e2⟩:=QC (hbc3.keep0 hkA)
 replace hk3:=hk3.trans0 hkA
 have hlt2:=hb2.lt
 have hneT:g2≠w3.heap.size:=by omega
 replace hb2:=hb2.keep0 hkA
 go_wp2_with fail
 clear hkA e0 e1 e2 hbc3
 generalize w3.alloc (.cells #[.int .i64 B,.int .i64 8,.int .i64 24,.slice (some ⟨g2,0,none⟩) 8 8,.slice (some ⟨g3,0,none⟩) 8 8] 304)=w4 at *
 generalize w3.heap.size=tb at *
 go_loopw [6] (fun i wr=>∃ (k:Nat) (cs:Array Value),k≤8∧i=.int .i64 k∧Keep [] w wr∧Blk wr tb 304 #[.int .i64 B,.int .i64 8,.int .i64 24,.slice (some ⟨g2,0,none⟩) 8 8,.slice (some ⟨g3,0,none⟩) 8 8]∧cs.size=16∧Blk wr g2 166 cs) (fun i _=>8-(intOf i).toNat)
 case atStart=>exact⟨0,cs,by omega,rfl,hk3,hbT,hcs,hb2⟩
 case round=>
  clear hk3 hbT hcs hb2 cs
  obtain⟨k,cs,hk,rfl,hkr,hbT,hcs,hb2⟩:=hrel
  obtain⟨T0,T1,T2,T3,T4⟩:=cells5 hbT
  by_cases hlt:k<8
  · obtain⟨s0,s1⟩:=Jt (hs.keep0 hkr) hlt
    have hltI:((k:Nat):Int)<8:=by omega
    obtain⟨z,hz,hzz⟩:∃ z:Nat,(if k=0 then (1:Int) else 0)=(z:Nat)∧z≤2:=by
     by_cases h0:k=0
     · exact⟨1,by rw[if_pos h0];rfl,by omega⟩
     · exact⟨0,by rw[if_neg h0];rfl,by omega⟩
    rw[hz] at s0
    clear hz
    have hWz:=fun W=>ZE (z:Nat) 0 2 true (by simp;omega) W
    go_wp2_with (first
     | (refine(hWz _).mono ?_;clear hWz;rintro e w' ⟨rfl,rfl⟩)
     | (refine(hW0 _).mono ?_;rintro e w' ⟨rfl,rfl⟩))
    have q0:wr.cell? ⟨g2,k*2,none⟩=some (cs[k*2]'(by omega)):=by rw[hb2.cell];simp
    have q1:wr.cell? ⟨g2,k*2+1,none⟩=some (cs[k*2+1]'(by omega)):=by rw[hb2.cell];simp
    have f0:=hb2.frozen (k*2)
    have f1:=hb2.frozen (k*2+1)
    refine ZT (fun w'=>w'.cell? ⟨tb,3,none⟩=some (.slice (some ⟨g2,0,none⟩) 8 8)∧w'.cell? ⟨G,k*2,none⟩=some (.int .i64 (z:Nat))∧w'.cell? ⟨G,k*2+1,none⟩=some (.int .i64 0)) 9 [[0,1,2,3,4,5,6,7,8]] ⟨T3,s0,s1⟩ ?_
    simp only[PI]
    iterate 9 (refine ZH ?_;simp only[Act.put,PU])
    refine JB ?_
    go_wp2_with fail
    have hb5:=(hb2.set (k*2) (.int .i64 (z:Nat))).set (k*2+1) (.int .i64 0)
    have hk5:Keep [g2] wr ((wr.setCell ⟨g2,k*2,none⟩ (.int .i64 (z:Nat))).setCell ⟨g2,k*2+1,none⟩ (.int .i64 0)):=((Keep.refl _ _).setCell (p:=⟨g2,k*2,none⟩) (.inl (by simp)) _).setCell (p:=⟨g2,k*2+1,none⟩) (.inl (by simp)) _
    go_round
    case rel=>exact⟨k+1,_,by omega,by go_num,(hkr.trans hk5 (fun x hx=>.inr (by simp at hx;omega))).drew,(hbT.keep hk5 (by simpa using fun h=>hneT h.symm)).drew,by simpa using hcs,hb5.drew⟩
    case measure=>simp[intOf];omega
  · obtain rfl:k=8:=by omega
    go_wp2
    go_ret
    exact⟨tb,rfl,hkr⟩
end
section
open Go.RowKit
theorem KAi {w:World} {b c lo:Nat} {bs:List UInt8} (hb:Rd w (some ⟨b,0,none⟩) 128 (bys bs)) (hl:lo+64≤128):Rd w (some ⟨b,lo,none⟩) 64 (bys ((bs.drop lo).take 64)):=by
 have h:=(hb.cut (k:=lo) (cap:=200) (by omega) (by omega)).take (k:=64) (by omega)
 rw[if_neg (by omega),Yb,YO] at h
 simpa [Addr.add_mid] using h
theorem QBG (w:World) (base d:Nat) (F:List Nat) (R:PRD) (h:RDkAt w base d F R) (ha:R.asked≤1000) (a:Nat) (hat:a+2≤R.n) (b c:Nat) (bs:List UInt8) (hb:Rd w (some ⟨b,0,none⟩) 128 (bys bs)) (hc:128≤c) (hbF:b∉F) (hbase:base≤w.heap.size) :
 Calls Tryz.prog 163 #[.pointer (some ⟨d,0,none⟩),.int .i64 (a:Nat),.slice (some ⟨b,0,none⟩) 128 c] w fun e w'=>e=.returned (.int .i64 0)∧∃ F' R',RDkAt w' base d F' R'∧R'.n=R.n∧R'.asked=R.asked+2∧R'.lv=R.lv∧Keep F w w'∧Grow w F F':=by
 have hn:R.n≤4096:=by obtain⟨S,H,U,L,h⟩:=h;exact h.few
 have hblt:b<w.heap.size:=by obtain⟨_,_,e,h,_⟩:=hb.2 (by omega);cases e;exact h
 go_enter Tryz.func163,Tryz.ntmps163
 go_wp2_with fail
 go_loopw [7,8] (fun i e wr=>∃ (k:Nat) (F':List Nat) (R':PRD),k≤2∧i=.int .i64 k∧RDkAt wr base d F' R'∧R'.n=R.n∧R'.asked=R.asked+k∧R'.lv=R.lv∧Keep F w wr∧Grow w F F') (fun i _ _=>2-(intOf i).toNat)
 case atStart=>exact⟨0,F,R,by omega,rfl,h,rfl,rfl,rfl,Keep.refl _ _,Grow.refl _ _⟩
 case round=>
  obtain⟨k,F',R',hk,rfl,hd,hn',ha',hl',hkr,hgr⟩:=hrel
  by_cases hlt:k<2
  · have hbF':b∉F':=fun hm=>(hgr b hm).elim hbF (by omega)
    have hltI:((k:Nat):Int)<2:=by omega
    have hbr:=hb.keepIf hkr (by rintro _ ⟨⟩;exact hbF)
    have hsz:=hkr.size
    rcases(by omega:k=0∨k=1) with rfl | rfl
    · have hW:=Xo wr base d F' R' hd (by omega) a (by omega) (some ⟨b,0,none⟩) c _ (KAi (c:=c) (lo:=0) hbr (by omega)) (by omega) (by rintro _ ⟨⟩;exact hbF') (by omega)
      have h64:(64:Int)≤(c:Nat):=by omega
      go_wp2_with (refine hW.mono ?_;clear hW;rintro e1 w1 ⟨rfl,F1,R1,q1,q2,q3,q4,q5,q6⟩)
      go_roundw
      case rel=>exact⟨1,F1,R1,by omega,rfl,q1,by omega,by omega,by rw[q4,hl'],hkr.trans q5 (fun x hx=>hgr x hx),fun x hx=>(q6 x hx).elim (hgr x) (fun h=>.inr (by omega))⟩
      case measure=>simp[intOf]
    · have hW:=Xo wr base d F' R' hd (by omega) (a+1) (by omega) (some ⟨b,64,none⟩) (c-64) _ (KAi (c:=c) (lo:=64) hbr (by omega)) (by omega) (by rintro _ ⟨⟩;exact hbF') (by omega)
      rw[Int.natCast_add] at hW
      have h128:(128:Int)≤(c:Nat):=by omega
      have h64:¬ c=64:=by omega
      go_wp2_with (refine hW.mono ?_;clear hW;rintro e1 w1 ⟨rfl,F1,R1,q1,q2,q3,q4,q5,q6⟩)
      go_roundw
      case rel=>exact⟨2,F1,R1,by omega,rfl,q1,by omega,by omega,by rw[q4,hl'],hkr.trans q5 (fun x hx=>hgr x hx),fun x hx=>(q6 x hx).elim (hgr x) (fun h=>.inr (by omega))⟩
      case measure=>simp[intOf]
  · obtain rfl:k=2:=by omega
    go_wp2
    go_ret
    exact⟨rfl,F',R',hd,hn',ha',hl',hkr,hgr⟩
end
section
open Go.RowKit
theorem ZAv {P X:World→Nat→Prop} {G:Prop} (f:(∀ a b,P a b→X a b)→G) (r:∀ a b,P a b→X a b):G:=f r
theorem QAu {P X:World→Nat→Nat→Nat→Nat→Prop} {G:Prop} (f:(∀ a b c d e,P a b c d e→X a b c d e)→G) (r:∀ a b c d e,P a b c d e→X a b c d e):G:=f r
theorem JAq (b:Nat) (cs:List Value) (hl:cs.length=14) (W:World) (h:W.rangeAt b 0 cs):(Instr.loadAt 185 (.pointer (some ⟨b,0,none⟩))).run Tryz.prog W=.ok (.agg cs.toArray) W:=
 run_loadAt_mid W b 0 185 cs _ h Tryz.underlying185 rfl (by rw[hl];kernel_rfl)
theorem ZAA (b:Nat) (cs:List Value) (hl:cs.length=14) (h1:∀ u∈cs,u.oneCell'=true) (W:World) (h:W.there b 0 14):(Instr.storeAt 185 (.pointer (some ⟨b,0,none⟩)) (.agg cs.toArray)).run Tryz.prog W=.ok () (W.setCells b 0 cs):=
 run_storeAt_mid W b 0 185 cs.toArray (by simpa [hl] using h) (by rw[List.size_toArray,hl];kernel_rfl) (all_oneCell_toArray h1)
theorem Qk {w:World} {g g':Nat} {t t':TypeId} {cs cs':Array Value} (h:Blk w g t cs) (h':Blk w g' t' cs') (ht:t≠t'):g≠g':=by
 rintro rfl
 have:=h.symm.trans h'
 simp at this
 exact ht this.2
theorem XAI {w:World} {g P:Nat} (h:Blk w g 3 (madeCells (Value.int .i64 0).cells (P*1))):Rd w (some ⟨g,0,none⟩) P (zv P):=by
 rw[show (Value.int .i64 0).cells=Array.replicate 1 (.int .i64 0) from rfl,QN _ _ _ (by omega),Nat.mul_one] at h
 have:=Rd.of_blk (n:=P) h (by simp)
 simpa [zv] using this
theorem XAi {w:World} {g m:Nat} (h:Blk w g 5 (madeCells (Value.int .u8 0).cells (m*1))):Rd w (some ⟨g,0,none⟩) m (bys (List.replicate m 0)):=by
 rw[show (Value.int .u8 0).cells=Array.replicate 1 (.int .u8 0) from rfl,QN _ _ _ (by omega),Nat.mul_one] at h
 have:=Rd.of_blk (n:=m) h (by simp)
 simpa [bys,by8] using this
theorem YAe {w:World} {g:Nat} (h:Blk w g 166 ((Array.replicate 16 (.int .i64 0)).setIfInBounds 0 (.int .i64 1))):SegsR w g:=by
 have:=Rd.of_blk (n:=16) h (by simp)
 exact this
theorem ImgAt.keepN {w w':World} {base m B:Nat} {Fi N:List Nat} (h:ImgAt w base m Fi B) (hk:KeepN N w w') (hg:∀ b∈Fi,b∈N):ImgAt w' base m Fi B:=by
 obtain⟨l,hk,hl⟩:=hk
 exact h.keep hk (fun b hb=>hl _ (hg b hb))
def Laid (w0 w:World) (base d:Nat) (F:List Nat) (n j:Nat) (N:List Nat):Prop:=∃ F' R',RDkAt w base d F' R'∧R'.n=n∧R'.asked≤j∧R'.lv.length≤j∧Keep F w0 w∧Grow w0 F F'∧∀ b∈N,b∉F'∧b<w.heap.size
namespace Laid
variable {w0 w w':World} {base d n j:Nat} {F N:List Nat}
theorem keepF (h:Laid w0 w base d F n j N):Keep F w0 w:=by obtain⟨_,_,_,_,_,_,h,_⟩:=h;exact h
theorem keep0 (h:Laid w0 w base d F n j N) (hk:Keep [] w w'):Laid w0 w' base d F n j N:=by
 obtain⟨F',R',h1,h2,h3,h4,h5,h6,h7⟩:=h
 have:=hk.size
 exact⟨F',R',h1.keep0 hk,h2,h3,h4,h5.trans0 hk,h6,fun b hb=>⟨(h7 b hb).1,by have:=(h7 b hb).2;omega⟩⟩
theorem mono (h:Laid w0 w base d F n j N) {i:Nat} (hi:j≤i):Laid w0 w base d F n i N:=by
 obtain⟨F',R',h1,h2,h3,h4,h5,h6⟩:=h
 exact⟨F',R',h1,h2,by omega,by omega,h5,h6⟩
theorem sub (h:Laid w0 w base d F n j N) {M:List Nat} (hs:∀ b∈M,b∈N):Laid w0 w base d F n j M:=by
 obtain⟨F',R',h1,h2,h3,h4,h5,h6,h7⟩:=h
 exact⟨F',R',h1,h2,h3,h4,h5,h6,fun b hb=>h7 b (hs b hb)⟩
theorem add (h:Laid w0 w base d F n j N) (hk:Keep [] w w') {b:Nat} (h1:w.heap.size≤b) (h2:b<w'.heap.size):Laid w0 w' base d F n j (b :: N):=by
 have h':=h.keep0 hk
 obtain⟨F',R',q1,q2,q3,q4,q5,q6,q7⟩:=h
 have hsz:=hk.size
 refine⟨F',R',q1.keep0 hk,q2,q3,q4,q5.trans0 hk,q6,fun x hx=>?_⟩
 rcases List.mem_cons.1 hx with rfl | hx
 · exact⟨fun hm=>by have:=q1.lt _ hm;omega,h2⟩
 · exact⟨(q7 x hx).1,by have:=(q7 x hx).2;omega⟩
theorem addL (h:Laid w0 w base d F n j N) (hk:Keep [] w w') (L:List Nat) (hL:∀ b∈L,w.heap.size≤b∧b<w'.heap.size):Laid w0 w' base d F n j (L++N):=by
 have hsz:=hk.size
 obtain⟨F',R',q1,q2,q3,q4,q5,q6,q7⟩:=h
 refine⟨F',R',q1.keep0 hk,q2,q3,q4,q5.trans0 hk,q6,fun x hx=>?_⟩
 rcases List.mem_append.1 hx with hx | hx
 · exact⟨fun hm=>by have:=q1.lt _ hm;have:=(hL x hx).1;omega,(hL x hx).2⟩
 · exact⟨(q7 x hx).1,by have:=(q7 x hx).2;omega⟩
theorem turn (h:Laid w0 w base d F n j N) {l:List Nat} (hk:Keep l w w') (hl:∀ x∈l,x∈N∧w0.heap.size≤x):Laid w0 w' base d F n j N:=by
 obtain⟨F',R',h1,h2,h3,h4,h5,h6,h7⟩:=h
 have:=hk.size
 exact⟨F',R',h1.keep hk (fun x hx hm=>(h7 x (hl x hm).1).1 hx),h2,h3,h4,h5.trans hk (fun x hx=>.inr (hl x hx).2),h6,fun b hb=>⟨(h7 b hb).1,by have:=(h7 b hb).2;omega⟩⟩
theorem mean (h:Laid w0 w base d F n j N) (hj:j≤500) (hb:base≤w0.heap.size) (A:Option Addr) (m c:Nat) :
 Calls Tryz.prog 162 #[.pointer (some ⟨d,0,none⟩),.slice A m c] w fun e w'=>e=.returned (.tuple #[])∧Laid w0 w' base d F n (j+1) N∧KeepN N w w':=by
 obtain⟨F',R',h1,h2,h3,h4,h5,h6,h7⟩:=h
 have hsz:=h5.size
 refine(QAq w base d F' R' h1 (by omega) A m c (by omega)).mono ?_
 rintro e w' ⟨rfl,F2,R2,q1,q2,q3,q4,q5,q6⟩
 have hs2:=q5.size
 exact⟨rfl,⟨F2,R2,q1,by omega,by omega,by omega,h5.trans q5 h6,fun x hx=>(q6 x hx).elim (h6 x) (fun h=>.inr (by omega)),fun b hb=>⟨fun hm=>(q6 b hm).elim (h7 b hb).1 (by have:=(h7 b hb).2;omega),by have:=(h7 b hb).2;omega⟩⟩,F',q5,fun b hb=>(h7 b hb).1⟩
theorem write (h:Laid w0 w base d F n j N) (hj:j≤500) (hb:base≤w0.heap.size) (k:Nat) (hk:k<n) (b c:Nat) (bs:List UInt8) (hr:Rd w (some ⟨b,0,none⟩) 64 (bys bs)) (hc:64≤c) (hbN:b∈N) :
 Calls Tryz.prog 237 #[.pointer (some ⟨d,0,none⟩),.int .i64 (k:Nat),.slice (some ⟨b,0,none⟩) 64 c] w fun e w'=>e=.returned (.int .i64 0)∧Laid w0 w' base d F n (j+1) N∧KeepN N w w':=by
 obtain⟨F',R',h1,h2,h3,h4,h5,h6,h7⟩:=h
 have hsz:=h5.size
 refine(Xo w base d F' R' h1 (by omega) k (by omega) _ c bs hr hc (by rintro _ ⟨⟩;exact(h7 b hbN).1) (by omega)).mono ?_
 rintro e w' ⟨rfl,F2,R2,q1,q2,q3,q4,q5,q6⟩
 have hs2:=q5.size
 have hlv:=congrArg List.length q4
 exact⟨rfl,⟨F2,R2,q1,by omega,by omega,by omega,h5.trans q5 h6,fun x hx=>(q6 x hx).elim (h6 x) (fun h=>.inr (by omega)),fun b hb=>⟨fun hm=>(q6 b hm).elim (h7 b hb).1 (by have:=(h7 b hb).2;omega),by have:=(h7 b hb).2;omega⟩⟩,F',q5,fun b hb=>(h7 b hb).1⟩
theorem rows (h:Laid w0 w base d F n j N) (hj:j≤500) (hb:base≤w0.heap.size) (k:Nat) (hk:k+2≤n) (b c:Nat) (bs:List UInt8) (hr:Rd w (some ⟨b,0,none⟩) 128 (bys bs)) (hc:128≤c) (hbN:b∈N) :
 Calls Tryz.prog 163 #[.pointer (some ⟨d,0,none⟩),.int .i64 (k:Nat),.slice (some ⟨b,0,none⟩) 128 c] w fun e w'=>e=.returned (.int .i64 0)∧Laid w0 w' base d F n (j+2) N∧KeepN N w w':=by
 obtain⟨F',R',h1,h2,h3,h4,h5,h6,h7⟩:=h
 have hsz:=h5.size
 refine(QBG w base d F' R' h1 (by omega) k (by omega) b c bs hr hc (h7 b hbN).1 (by omega)).mono ?_
 rintro e w' ⟨rfl,F2,R2,q1,q2,q3,q4,q5,q6⟩
 have hs2:=q5.size
 have hlv:=congrArg List.length q4
 exact⟨rfl,⟨F2,R2,q1,by omega,by omega,by omega,h5.trans q5 h6,fun x hx=>(q6 x hx).elim (h6 x) (fun h=>.inr (by omega)),fun b hb=>⟨fun hm=>(q6 b hm).elim (h7 b hb).1 (by have:=(h7 b hb).2;omega),by have:=(h7 b hb).2;omega⟩⟩,F',q5,fun b hb=>(h7 b hb).1⟩
theorem flush (h:Laid w0 w base d F n j N) (hj:j≤500) :
 Calls Tryz.prog 156 #[.pointer (some ⟨d,0,none⟩)] w fun e w'=>e=.returned (.int .i64 0)∧Keep F w0 w'∧KeepN N w w':=by
 obtain⟨F',R',h1,h2,h3,h4,h5,h6,h7⟩:=h
 refine(QAY w base d F' R' h1 (by omega)).mono ?_
 rintro e w' ⟨rfl,q5⟩
 exact⟨rfl,h5.trans q5 h6,F',q5,fun b hb=>(h7 b hb).1⟩
end Laid
end
end Go.Proofs.YthgphmfipnjllaaGreat
