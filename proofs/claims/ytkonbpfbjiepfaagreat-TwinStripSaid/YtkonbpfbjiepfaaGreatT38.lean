/- Lemmas of the proof, with their conditions. -/
import Derived.Test.YtkonbpfbjiepfaaGreatT37
namespace Go.Proofs.YtkonbpfbjiepfaaGreat
set_option linter.unusedSimpArgs false
set_option linter.unusedVariables false
set_option maxHeartbeats 4000000
set_option maxRecDepth 100000
section
open Go.RowKit Go.Shelf
def XAs (B:Nat) (D:PDisk):PDisk:=((D.write (6+4*pgs B) (List.replicate 64 0)).write 0 (QAG B 1 2)).flush
def PS.mounted (B:Nat) (D:PDisk) (od:List Bool):PS:=
 ⟨XAs B D,us0,List.replicate 8 0,⟨⟨0,0,1,0,2⟩,[],[]⟩,⟨List.replicate B 0,List.replicate (pgs B) false,List.replicate B (-1),od⟩,⟨1,1,0,0,0,2,1⟩,0,List.replicate (pgs B) 0,List.replicate (pgs B) 0⟩
theorem QAn (w:World) (d base B:Nat) (F:List Nat) (D:PDisk) (h:DiskAt w base d F D) (hoff:D.off=false) (hfuse:D.fuse = -1) (ha:D.acts≤1000000) (hfl:∀ k,k<D.n→D.faults[k]? = some false) (hF:Fmt B D) (h1:1≤B) (h2:B≤64) (hbase:base≤w.heap.size) :
 Calls Tryz.prog 136 #[.pointer (some ⟨d,0,none⟩)] w fun e w'=>∃ s,e=.returned (.tuple #[.pointer (some ⟨s,0,none⟩),.int .i64 0]) ∧
  ∃ F' od,StoreAt w' base s d F' B (PS.mounted B D od)∧Keep F w w'∧Grow w F F':=by
 have hpb:=YC h1 h2;have hn:=hF.n;have hkA:=(Keep.refl [] w).alloc (.cells #[.pointer (some ⟨d,0,none⟩),.pointer none,.int .i64 0,.int .i64 0,.int .i64 0,.int .i64 0,.int .i64 0,.int .i64 0,.int .i64 0,.int .i64 0,.int .i64 0,.int .i64 0,.int .i64 0,.int .i64 0,.int .i64 0,.int .i64 0,.int .i64 0,.int .i64 0,.slice none 0 0,.slice none 0 0,.slice none 0 0,.int .i64 0,.pointer none,.pointer none,.int .i64 0,.int .i64 0,.int .i64 0,.int .i64 0,.int .i64 0,.int .i64 0,.int .i64 0,.int .i64 0,.int .i64 0,.int .i64 0,.int .i64 0,.int .i64 0,.int .i64 0,.int .i64 0,.int .i64 0] 311);have hb0:=Blk.new w 311 #[.pointer (some ⟨d,0,none⟩),.pointer none,.int .i64 0,.int .i64 0,.int .i64 0,.int .i64 0,.int .i64 0,.int .i64 0,.int .i64 0,.int .i64 0,.int .i64 0,.int .i64 0,.int .i64 0,.int .i64 0,.int .i64 0,.int .i64 0,.int .i64 0,.int .i64 0,.slice none 0 0,.slice none 0 0,.slice none 0 0,.int .i64 0,.pointer none,.pointer none,.int .i64 0,.int .i64 0,.int .i64 0,.int .i64 0,.int .i64 0,.int .i64 0,.int .i64 0,.int .i64 0,.int .i64 0,.int .i64 0,.int .i64 0,.int .i64 0,.int .i64 0,.int .i64 0,.int .i64 0];have hFlt:=h.lt;have hfF:w.heap.size∉F:=fun hm=>by have:=hFlt _ hm;omega
 have hdA:=h.keep0 hkA;have hSu:=QAi _ w.heap.size d base B F D hb0 hdA hoff hfl hF h1 h2 hfF
 go_enter Tryz.func136,Tryz.ntmps136
 go_wp2_with (first
  | (refine hSu.mono ?_
     clear hSu;rintro e w1 ⟨rfl,g,hf1,hg1,hgl,hk1⟩;have hd1:=hdA.keep hk1 (fun x hx hm=>by simp at hm;subst hm;exact hfF hx)
     have hRg:=ZAP w1 w.heap.size d g base B F D hf1 hd1 hoff hfl hF hg1)
  | (refine hRg.mono ?_
     clear hRg;rintro e w2 ⟨rfl,t,m,N,Ft,Fm,BA,bc,OA,oc,UA,uc,hf2,ht2,hm2,hTl,hMl,hBl,hOl,hoB,hoO,hk2⟩;have hlg:w.heap.size<w1.heap.size:=hf1.lt;have hmge:=hm2.ge;have htge:=ht2.ge;have hfm:w.heap.size∉Fm:=fun hm=>by have:=hmge _ hm;omega
     have hft:w.heap.size∉Ft:=fun hm=>by have:=htge _ hm;omega
     have hgf:g≠w.heap.size:=by simp at hgl;omega
     have hd2:=hd1.keep hk2 (fun x hx hm=>by simp at hm;subst hm;exact hfF hx);have hg2:=hg1.keep hk2 (by simpa using hgf);have hgm:g∉Fm:=fun hm=>by have:=hmge _ hm;have:=hg1.lt;omega
     have hdm:Apart F Fm:=fun x hx hm=>by have:=hmge _ hm;have:=hFlt x hx;omega
     have c18:w2.cell? ⟨w.heap.size,18,none⟩=some (.slice BA (pgs B) bc):=by simpa using hf2.cell 18
     have hP0:=Xy w2 w.heap.size d g m base w1.heap.size B F Fm D _ hf2 rfl rfl rfl hd2 hoff hfl hn hg2 false 0 rfl _ hm2 rfl rfl (fun k hk=>by simpa using hF.base k hk) BA bc (Rd.of_own hoB) (fun a ha hm=>by have:=hBl a ha;have:=hMl _ hm;omega) hfm hgm hdm)
  | (refine hP0.mono ?_
     clear hP0 c18;rintro e w3 ⟨rfl,hm3,hk3⟩;have hf3:=hf2.keep hk3 hfm;have hd3:=hd2.keep hk3 hdm;have hg3:=hg2.keep hk3 hgm
     have hoO3:=XB hoO hk3 (fun x hx hm=>by
      rcases OA with _ | a
      · simp[Value.ownBlock] at hx
      · simp[Value.ownBlock] at hx;subst hx;have:=hOl a rfl;have:=hMl _ hm;omega)
     have c19:w3.cell? ⟨w.heap.size,19,none⟩=some (.slice OA (pgs B) oc):=by simpa using hf3.cell 19
     have hP1:=Xy w3 w.heap.size d g m base w1.heap.size B F Fm D _ hf3 rfl rfl rfl hd3 hoff hfl hn hg3 true (-1) rfl _ hm3 rfl rfl (fun k hk=>by simpa using hF.over k hk) OA oc (Rd.of_own hoO3) (fun a ha hm=>by have:=hOl a ha;have:=hMl _ hm;omega) hfm hgm hdm)
  | (refine hP1.mono ?_
     clear hP1 c19;rintro e w4 ⟨rfl,hm4,hk4⟩;have hf4:=hf3.keep hk4 hfm;have hd4:=hd3.keep hk4 hdm;have hg4:=hg3.keep hk4 hgm
     have hFw:=VAC w4 w.heap.size d g t m w1.heap.size base B F Fm D BA OA bc oc UA uc _ hf4 hm4 hd4 hg4 hoff hn hfl (hF.log _ (Nat.le_refl _) (by omega)) hfm)
  | (refine hFw.mono ?_
     clear hFw;rintro e w5 ⟨rfl,od,hm5,hf5,hk5⟩;have hKt:Keep (w.heap.size :: Fm) w2 w5:=((hk3.trans hk4 (fun x hx=>.inl hx)).sub (fun x hx=>List.mem_cons_of_mem _ hx)).trans hk5 (fun x hx=>.inl hx);have hd5:=hd4.keep hk5 (fun x hx hm=>by rcases List.mem_cons.1 hm with rfl | hm;exact hfF hx;exact hdm x hx hm);have hg5:=hg4.keep hk5 (by simpa using⟨hgf,hgm⟩)
     have ht5:=ht2.keep hKt (fun x hx hm=>by
      rcases List.mem_cons.1 hm with rfl | hm
      · exact hft hx
      · have:=hTl x hx;have:=hMl x hm;omega)
     have hs2:=hk2.size;have hs5:=hKt.size
     have hBg:=KAO w5 w.heap.size d g t m w1.heap.size w1.heap.size base B F Fm Ft D BA OA bc oc UA uc od hf5 hm5 ht5 hd5 hg5 hoff hfuse ha hn h1 h2 (by omega) hfm hft hfF (fun x hx hm=>by have:=htge x hx;have:=hFlt x hm;omega) (fun hm=>by have:=hFlt g hm;simp at hgl;omega))
  | (refine hBg.mono ?_
     clear hBg;rintro e w6 ⟨p,Fw,F',rfl,hf6,hd6,hw6,hk6,hgr6,hap6⟩))
 have hfE:=hf6.keep0 (Keep.refl [] w6).drew;have hlf:w.heap.size<w5.heap.size:=hf5.lt;have hFm2:=hm2.lt;have hFt2:=ht2.lt;have hFw6:=hw6.lt;have hFwg:=hw6.ge;have hF6:=hd6.lt;have hF6g:∀ x∈F',x∈F∨w5.heap.size≤x:=hgr6
 have hFm6:∀ x∈Fm,x∉w.heap.size :: F:=fun x hx hm=>by
  rcases List.mem_cons.1 hm with rfl | hm
  · exact hfm hx
  · exact hdm x hm hx
 have hFt6:∀ x∈Ft,x∉w.heap.size :: F:=fun x hx hm=>by
  rcases List.mem_cons.1 hm with rfl | hm
  · exact hft hx
  · have:=htge x hx;have:=hFlt x hm;omega
 have hgd6:g∉w.heap.size :: F:=fun hm=>by
  rcases List.mem_cons.1 hm with e | hm
  · exact hgf e
  · have:=hFlt g hm;simp at hgl;omega
 have hK:Keep (w.heap.size :: (Fm++F)) w2 w6:=(hKt.sub (fun x hx=>by simp at hx;simp;rcases hx with hx | hx <;> simp[hx])).trans (hk6.sub (fun x hx=>by simp at hx;simp;rcases hx with hx | hx <;> simp[hx])) (fun x hx=>.inl hx)
 have hoX:∀ {V:Option Addr} {vc:Nat},w2.ownsRow w1.heap.size 3 1 (.slice V (pgs B) vc) (pgs B) (QH (List.replicate (pgs B) 0))→(∀ a,V=some a→a.block<N)→w6.ownsRow w1.heap.size 3 1 (.slice V (pgs B) vc) (pgs B) (QH (List.replicate (pgs B) 0)):=fun {V vc} ho hl=>XB ho hK (fun x hx hm=>by
  have q:=(own_mem ho (g:=x) (by rw[hx];simp)).1;have q2:=own_blk_ne ho hf2 (by decide);rcases V with _ | a
  · simp[Value.ownBlock] at hx
  · simp[Value.ownBlock] at hx
    subst hx;have q3:=hl a rfl;simp only[List.mem_cons,List.mem_append] at hm;rcases hm with hm | hm | hm
    · exact q2 (by simp[Value.ownBlock,hm])
    · have:=hMl _ hm;omega
    · have:=hFlt _ hm;omega)
 have hrB:=(Rd.of_own (hoX hoB hBl)).drew;have hrO:=(Rd.of_own (hoX hoO hOl)).drew;have hm6:=(hm5.keep hk6 hFm6).keep0 (Keep.refl [] w6).drew;have ht6:=(ht5.keep hk6 hFt6).keep0 (Keep.refl [] w6).drew;have hg6:=(hg5.keep hk6 hgd6).keep0 (Keep.refl [] w6).drew;replace hd6:=hd6.keep0 (Keep.refl [] w6).drew;replace hw6:=hw6.keep0 (Keep.refl [] w6).drew
 have hkF:Keep F w w6.drew:=((((hkA.trans0 ((Keep.refl [] _))).zero.trans hk1 (fun x hx=>.inr (by simp at hx;omega))).trans hk2 (fun x hx=>.inr (by simp at hx;omega))).trans hKt (fun x hx=>.inr (by
  rcases List.mem_cons.1 hx with rfl | hx
  · omega
  · have:=hmge x hx;omega))).trans hk6 (fun x hx=>by
  rcases List.mem_cons.1 hx with rfl | hx
  · exact .inr (by omega)
  · exact .inl hx) |>.trans0 (Keep.refl [] w6).drew
 clear hf1 hf2 hf3 hf4 hf5 hd1 hd2 hd3 hd4 hd5 hg2 hg3 hg4 hg5 hm2 hm3 hm4 hm5 ht2 ht5 hk1 hk2 hk3 hk4 hk5 hK hoX hoB hoO hoO3;refine ZT (fun X=>X.cell? ⟨w.heap.size,1,none⟩=some (.pointer (some ⟨g,0,none⟩))∧X.cell? ⟨w.heap.size,7,none⟩=some (.int .i64 1)∧X.cell? ⟨w.heap.size,8,none⟩=some (.int .i64 1)∧X.cell? ⟨w.heap.size,9,none⟩=some (.int .i64 1)∧X.cell? ⟨w.heap.size,10,none⟩=some (.int .i64 0)∧X.cell? ⟨w.heap.size,11,none⟩=some (.int .i64 0)∧X.cell? ⟨w.heap.size,12,none⟩=some (.int .i64 0)∧X.cell? ⟨w.heap.size,13,none⟩=some (.int .i64 0)∧X.cell? ⟨w.heap.size,14,none⟩=some (.int .i64 0)∧X.cell? ⟨w.heap.size,15,none⟩=some (.int .i64 1)∧X.cell? ⟨w.heap.size,16,none⟩=some (.int .i64 0)∧X.cell? ⟨w.heap.size,17,none⟩=some (.int .i64 1)∧X.cell? ⟨w.heap.size,18,none⟩=some (.slice BA (pgs B) bc)∧X.cell? ⟨w.heap.size,19,none⟩=some (.slice OA (pgs B) oc)∧X.cell? ⟨w.heap.size,20,none⟩=some (.slice (some ⟨UA,0,none⟩) 8 uc)∧X.cell? ⟨w.heap.size,21,none⟩=some (.int .i64 0)∧X.cell? ⟨w.heap.size,22,none⟩=some (.pointer (some ⟨t,0,none⟩))∧X.cell? ⟨w.heap.size,23,none⟩=some (.pointer (some ⟨m,0,none⟩))∧X.cell? ⟨w.heap.size,24,none⟩=some (.int .i64 1)∧X.cell? ⟨w.heap.size,25,none⟩=some (.int .i64 1)∧X.cell? ⟨w.heap.size,26,none⟩=some (.int .i64 0)∧X.cell? ⟨w.heap.size,27,none⟩=some (.int .i64 0)∧X.cell? ⟨w.heap.size,28,none⟩=some (.int .i64 0)∧X.cell? ⟨w.heap.size,29,none⟩=some (.int .i64 2)∧X.cell? ⟨w.heap.size,30,none⟩=some (.int .i64 1)∧X.cell? ⟨w.heap.size,31,none⟩=some (.int .i64 0)∧X.cell? ⟨w.heap.size,32,none⟩=some (.int .i64 0)∧X.cell? ⟨w.heap.size,33,none⟩=some (.int .i64 0)) 26 [[0,1,2,3,4,5,6,7,8,9,10,11,12,13,14,15,16,17,18,19,20,21,22,23,24,25]] ⟨by simpa using hfE.cell 1,by simpa using hfE.cell 7,by simpa using hfE.cell 8,by simpa using hfE.cell 9,by simpa using hfE.cell 10,by simpa using hfE.cell 11,by simpa using hfE.cell 12,by simpa using hfE.cell 13,by simpa using hfE.cell 14,by simpa using hfE.cell 15,by simpa using hfE.cell 16,by simpa using hfE.cell 17,by simpa using hfE.cell 18,by simpa using hfE.cell 19,by simpa using hfE.cell 20,by simpa using hfE.cell 21,by simpa using hfE.cell 22,by simpa using hfE.cell 23,by simpa using hfE.cell 24,by simpa using hfE.cell 25,by simpa using hfE.cell 26,by simpa using hfE.cell 27,by simpa using hfE.cell 28,by simpa using hfE.cell 29,by simpa using hfE.cell 30,by simpa using hfE.cell 31,by simpa using hfE.cell 32,by simpa using hfE.cell 33⟩ ?_;simp only[PI]
 iterate 26 (refine ZH ?_;simp only[Act.put,PU])
 refine QC ?_;have hF7:=hd6.lt;have hFw7:=hw6.lt;have hFm7:=hm6.lt;have hFt7:=ht6.lt;have hg7:=hg6.lt;have h57:w5.heap.size≤w6.drew.heap.size:=hk6.size;generalize w6.drew=w7 at *
 have hMk:Calls Tryz.prog 105 #[.pointer (some ⟨d,0,none⟩),.pointer (some ⟨t,0,none⟩),.pointer (some ⟨m,0,none⟩),.pointer (some ⟨p,0,none⟩),.pointer (some ⟨g,0,none⟩),.int .i64 0,.agg #[.int .i64 1,.int .i64 1,.int .i64 1,.int .i64 0,.int .i64 0,.int .i64 0,.int .i64 0,.int .i64 0,.int .i64 1,.int .i64 0,.int .i64 1,.slice BA (pgs B) bc,.slice OA (pgs B) oc,.slice (some ⟨UA,0,none⟩) 8 uc],.agg #[.int .i64 1,.int .i64 1,.int .i64 0,.int .i64 0,.int .i64 0,.int .i64 2,.int .i64 1,.int .i64 0,.int .i64 0,.int .i64 0]] w7 fun e w'=>∃ s L0 L1,e=.returned (.pointer (some ⟨s,0,none⟩))∧w7.heap.size≤s ∧
  Blk w' s 108 #[.pointer (some ⟨d,0,none⟩),.pointer (some ⟨g,0,none⟩),.pointer (some ⟨t,0,none⟩),.pointer (some ⟨m,0,none⟩),.pointer (some ⟨p,0,none⟩),.int .i64 1,.int .i64 1,.int .i64 0,.int .i64 0,.int .i64 0,.int .i64 2,.int .i64 1,.int .i64 0,.int .i64 0,.int .i64 0,.int .i64 0,L0,L1] ∧
  w'.ownsRow w7.heap.size 3 1 L0 (pgs B) (QH (List.replicate (pgs B) 0))∧w'.ownsRow w7.heap.size 3 1 L1 (pgs B) (QH (List.replicate (pgs B) 0))∧Keep [] w7 w':=
  VAV w7 d t m p g 0 (pgs B) ⟨1,1,1,0,0,0,⟨0,0,1,0,1⟩⟩ BA bc (List.replicate (pgs B) 0) OA oc (List.replicate (pgs B) 0) (some ⟨UA,0,none⟩) 8 uc hrB hrO (by omega) ⟨1,1,0,0,0,2,1⟩
 clear hrB hrO
 go_wp2_with (refine hMk.mono ?_;clear hMk;rintro e w8 ⟨s,L0,L1,rfl,hs8,hb8,hl0,hl1,hk8⟩)
 go_ret2;have hgl':w.heap.size<g:=by simp at hgl;omega
 have hg1':=hg1.lt;have z8:=hk8.size
 have hL:∀ x∈L0.ownBlock.toList++L1.ownBlock.toList,w7.heap.size≤x∧x≠s:=fun x hx=>by
  rcases List.mem_append.1 hx with hx | hx
  · exact⟨(own_mem hl0 hx).1,fun e=>by subst e;exact own_blk_ne hl0 hb8 (by decide) (by simpa using hx)⟩
  · exact⟨(own_mem hl1 hx).1,fun e=>by subst e;exact own_blk_ne hl1 hb8 (by decide) (by simpa using hx)⟩
 have hD:∀ x∈F',x<w.heap.size∨w5.heap.size≤x:=fun x hx=>(hF6g x hx).imp (hFlt x) id
 have hlog:LogIs w8 base d g t p F' Ft Fw B (XAs B D) us0 (List.replicate 8 0) ⟨⟨0,0,1,0,2⟩,[],[]⟩:=
  ⟨hd6.keep0 hk8,hg6.keep0 hk8,(ht6.keep0 hk8).rebase (by omega),(hw6.keep0 hk8).rebase (by omega),
    fun x hx hy=>by(have:=hD x hx;have:=htge x hy;have:=hFt2 x hy;omega),fun x hx hy=>hap6 x hy hx,fun x hx hy=>by(have:=hFt2 x hx;have:=hFwg x hy;omega),fun hy=>by(have:=hD g hy;omega),fun hy=>by(have:=htge g hy;omega),fun hy=>by(have:=hFwg g hy;omega),
    by simp[PPos.Ok],hoff,hfuse,hn,by omega⟩
 have hst:StoreIs w8 base s d g t p m F' Ft Fw Fm L0 L1 B (PS.mounted B D od):=by
  refine⟨hb8,hlog,(hm6.keep0 hk8).rebase (by omega),by simp[PS.mounted],KB hl0 (by omega),KB hl1 (by omega),by omega,by omega,?_,?_,?_⟩
  · intro x hx hy
    have h1:=hFm2 x hx;have h2:=hmge x hx;simp only[List.mem_cons,List.mem_append] at hy;rcases hy with rfl | hy | hy | hy
    · omega
    · have:=hD x hy;omega
    · have:=hTl x hy;have:=hMl x hx;omega
    · have:=hFwg x hy;omega
  · intro hy
    simp only[List.mem_cons,List.mem_append] at hy;rcases hy with hy | hy | hy | hy | hy
    · omega
    · have:=hF7 s hy;omega
    · have:=hFt7 s hy;omega
    · have:=hFw7 s hy;omega
    · have:=hFm7 s hy;omega
  · intro x hx hy
    obtain⟨h1,h2⟩:=hL x hx;simp only[List.mem_cons,List.mem_append] at hy;rcases hy with hy | hy | hy | hy | hy | hy
    · exact h2 hy
    · omega
    · have:=hF7 x hy;omega
    · have:=hFt7 x hy;omega
    · have:=hFw7 x hy;omega
    · have:=hFm7 x hy;omega
 refine⟨s,rfl,_,od,⟨g,t,p,m,F',Ft,Fw,Fm,L0,L1,hst,rfl⟩,hkF.trans0 hk8,?_⟩;intro x hx;simp only[QL,List.mem_cons,List.mem_append] at hx;have hL':=fun h=>hL x (List.mem_append.2 h);rcases hx with rfl | rfl | hx | hx | hx | hx | hx
 · exact .inr (by omega)
 · exact .inr (by omega)
 · exact(hF6g x hx).imp id (fun h=>by omega)
 · exact .inr (by have:=htge x hx;omega)
 · exact .inr (by have:=hFwg x hx;omega)
 · exact .inr (by have:=hmge x hx;omega)
 · exact .inr (by have:=(hL' hx).1;omega)
end
section
open Go.RowKit Go.Shelf
attribute [local go_sem] Oper.semAt_some
def XAT (S:PS):Nat:=(VJ S.I.bl S.I.ol S.I.bl.length).length
def ZBD (S:PS):List Value:=[.int .i64 S.st.mode,.int .i64 S.st.view,.int .i64 S.st.epoch,.int .i64 S.st.seq,.int .i64 S.st.done,.int .i64 S.st.mount,.int .i64 S.st.gen,.int .i64 (JD S.us:Nat),.int .i64 (XAT S:Nat),.int .i64 (ZG S.I.ol:Nat)]
theorem Zs (bl ol:List Int) (k:Nat):(VJ bl ol k).length≤2*k:=by
 induction k with
 | zero=>simp[VJ]
 | succ k ih=>
   rw[VJ,List.length_append,List.length_append]
   split <;> split <;> simp <;> omega
theorem Vb {w:World} {g:Nat} {t:TypeId} {x0 x1 x2 x3 x4 x5 x6 x7 x8 x9:Value} (h:Blk w g t #[x0,x1,x2,x3,x4,x5,x6,x7,x8,x9]) :
 w.cell? ⟨g,0,none⟩=some x0∧w.cell? ⟨g,1,none⟩=some x1∧w.cell? ⟨g,2,none⟩=some x2∧w.cell? ⟨g,3,none⟩=some x3∧w.cell? ⟨g,4,none⟩=some x4∧w.cell? ⟨g,5,none⟩=some x5∧w.cell? ⟨g,6,none⟩=some x6∧w.cell? ⟨g,7,none⟩=some x7∧w.cell? ⟨g,8,none⟩=some x8∧w.cell? ⟨g,9,none⟩=some x9:=
 ⟨by simpa using h.cell 0,by simpa using h.cell 1,by simpa using h.cell 2,by simpa using h.cell 3,by simpa using h.cell 4,by simpa using h.cell 5,by simpa using h.cell 6,by simpa using h.cell 7,by simpa using h.cell 8,by simpa using h.cell 9⟩
def wrN (n:Nat):Int:=IntKind.i64.wrap (n:Nat)
theorem KAk (n:Nat):IntKind.i64.wrap (wrN n+1)=wrN (n+1):=by
 unfold wrN;simp only[IntKind.wrap_i64];omega
theorem QAY (n:Nat) (h:n≤1000000):wrN n=(n:Nat):=by
 unfold wrN;rw[IntKind.wrap_i64];omega
structure KSta (w:World) (cs:Array Value) (pre:List PRnd) (W:World):Prop where
 cnt:Blk W (w.heap.size+1) 72 (cs.setIfInBounds 8 (.int .i64 (wrN pre.length)))
 res:Blk W w.heap.size 72 #[.int .i64 0,.int .i64 0,.int .i64 0,.int .i64 0,.int .i64 0,.int .i64 0,.int .i64 0,.int .i64 0,.int .i64 0,.int .i64 0]
 keep:Keep [] w W
theorem KSta.kept {w A B:World} {cs:Array Value} {pre:List PRnd} (h:KSta w cs pre A) (hk:Keep [] A B):KSta w cs pre B:=⟨h.cnt.keep0 hk,h.res.keep0 hk,h.keep.trans0 hk⟩
theorem KSta.turned {w W:World} {cs:Array Value} {k:Nat} {pre:List PRnd} {o o':Obj} (h:KSta w cs pre W) (hl:w.heap.size≤k) (hg:W.heap[k]? = some o) (ho:o.isCells=false):KSta w cs pre (W.putObj k o'):=
 ⟨XH o' h.cnt hg ho,XH o' h.res hg ho,h.keep.putObj hl o'⟩
theorem VAO (w:World) (base s d g t p m:Nat) (Ft Fm:List Nat) (L0 L1:Value) (S:PS) (hblk:Blk w s 108 #[.pointer (some ⟨d,0,none⟩),.pointer (some ⟨g,0,none⟩),.pointer (some ⟨t,0,none⟩),.pointer (some ⟨m,0,none⟩),.pointer (some ⟨p,0,none⟩),
 .int .i64 S.st.mode,.int .i64 S.st.view,.int .i64 S.st.epoch,.int .i64 S.st.seq,.int .i64 S.st.done,.int .i64 S.st.mount,.int .i64 S.st.gen,.int .i64 0,.int .i64 0,.int .i64 0,.int .i64 S.slot,L0,L1])
 (htab:TableAt w base t g Ft S.us S.lv) (hI:ImageAt w base m Fm S.I) :
 Calls Tryz.prog 85 #[.pointer (some ⟨s,0,none⟩)] w fun e w'=>e=.returned (.agg (ZBD S).toArray)∧Keep [] w w':=by
 have hFr:=fun W (hk:Keep [] w W)=>VAo W base t g Ft S.us S.lv (htab.keep0 hk);have hPe:=fun W (hk:Keep [] w W)=>JAP W base m Fm S.I (hI.keep0 hk);unfold ZBD;generalize hfc:JD S.us=fc at *;generalize hpc:ZG S.I.ol=pc at *;obtain⟨D,us,lv,W,I,⟨mode,view,epoch,seq,done,mount,gen⟩,slot,lie0,lie1⟩:=S;simp only at *;refine(callsIn_wide (n:=3)).1 ?_;refine callsIn_of_wp_marks Tryz.func85 rfl trivial ?_ rfl;simp only[Tryz.ntmps85,List.size_toArray,List.length_cons,List.length_nil,Nat.reduceAdd,Nat.reduceSub,Array.replicate_succ,Array.replicate_zero,List.push_toArray,List.append_toArray,List.nil_append,List.cons_append];obtain⟨w2,hw2⟩:∃ w2,w2=(w.alloc (.cells #[.int .i64 0,.int .i64 0,.int .i64 0,.int .i64 0,.int .i64 0,.int .i64 0,.int .i64 0,.int .i64 0,.int .i64 0,.int .i64 0] 72)).alloc (.cells #[.int .i64 mode,.int .i64 view,.int .i64 epoch,.int .i64 seq,.int .i64 done,.int .i64 mount,.int .i64 gen,.int .i64 0,.int .i64 0,.int .i64 0] 72):=⟨_,rfl⟩;have k2:Keep [] w w2:=by rw[hw2];exact((Keep.refl _ _).alloc _).alloc _
 have s2:w2.heap.size=w.heap.size+2:=by rw[hw2];simp
 have b2:Blk w2 w.heap.size 72 #[.int .i64 0,.int .i64 0,.int .i64 0,.int .i64 0,.int .i64 0,.int .i64 0,.int .i64 0,.int .i64 0,.int .i64 0,.int .i64 0]:=by rw[hw2];exact(Blk.new w _ _).keep0 ((Keep.refl _ _).alloc _)
 have b3:Blk w2 (w.heap.size+1) 72 #[.int .i64 mode,.int .i64 view,.int .i64 epoch,.int .i64 seq,.int .i64 done,.int .i64 mount,.int .i64 gen,.int .i64 0,.int .i64 0,.int .i64 0]:=by
  rw[hw2];have:=Blk.new (w.alloc (.cells #[.int .i64 0,.int .i64 0,.int .i64 0,.int .i64 0,.int .i64 0,.int .i64 0,.int .i64 0,.int .i64 0,.int .i64 0,.int .i64 0] 72)) 72 #[.int .i64 mode,.int .i64 view,.int .i64 epoch,.int .i64 seq,.int .i64 done,.int .i64 mount,.int .i64 gen,.int .i64 0,.int .i64 0,.int .i64 0];rw[show ∀ o,(w.alloc o).heap.size=w.heap.size+1 from fun o=>by simp] at this;exact this
 obtain⟨c0,c1,c2,c3,c4,c5,c6,c7,c8,c9,c10,c11,c12,c13,c14,c15,c16,c17⟩:=ZD hblk;have hslt:=hblk.lt
 gi_wp2
 rw[← hw2];clear hw2;have hFr1:=hFr w2.drew k2.drew;obtain⟨f7,f9⟩:(∀ W,Keep [] w2 W→W.frozen? ⟨w.heap.size+1,7,none⟩=false)∧(∀ W,Keep [] w2 W→W.frozen? ⟨w.heap.size+1,9,none⟩=false):=⟨fun W hk=>(b3.keep0 hk).frozen 7,fun W hk=>(b3.keep0 hk).frozen 9⟩;refine XF (wpIn_wide.2 ?_);refine ZT (fun w'=>w'.cell? ⟨s,2,none⟩=some (.pointer (some ⟨t,0,none⟩))∧w'.cell? ⟨s,3,none⟩=some (.pointer (some ⟨m,0,none⟩))) 11 [[0,1,2,3,5,6,7,8],[4,10],[9]] ⟨(ZD (hblk.keep0 k2.drew)).2.2.1,(ZD (hblk.keep0 k2.drew)).2.2.2.1⟩ ?_;simp only[PI]
 iterate 8 (refine ZH ?_;simp only[Act.put,PU])
 refine ZB (by rfl) (fun K hK=>?_)
 go_wp2_with (refine hFr1.mono ?_;clear hFr1;rintro e w3 ⟨rfl,hk3⟩)
 have k3:Keep [] w2 w3:=(Keep.refl _ _).drew.trans0 hk3;have hPe1:=hPe w3 (k2.trans0 k3);refine hK _ _ (⟨(ZD (hblk.keep0 (k2.trans0 k3))).2.2.1,(ZD (hblk.keep0 (k2.trans0 k3))).2.2.2.1⟩) ?_;clear hK K
 try simp only[Act.put,PU]
 iterate 1 (refine ZH ?_;simp only[Act.put,PU])
 refine ZB (by rfl) (fun K hK=>?_)
 go_wp2_with (refine hPe1.mono ?_;clear hPe1;rintro e w4 ⟨rfl,hk4⟩)
 have k4:Keep [] w2 w4:=k3.trans0 hk4;refine hK _ _ (⟨(ZD (hblk.keep0 (k2.trans0 k4))).2.2.1,(ZD (hblk.keep0 (k2.trans0 k4))).2.2.2.1⟩) ?_;clear hK K
 try simp only[Act.put,PU]
 refine QC ?_;have q7:=f7 w4 k4;have q9:=f9 w4 k4;obtain⟨y0,y1,y2,y3,y4,y5,y6,y7,y8,y9⟩:=Vb (b3.keep0 k4)
 go_wp2_with fail
 have hkz:Keep [w.heap.size+1] w4 ((w4.setCell ⟨w.heap.size+1,7,none⟩ (.int .i64 (fc:Nat))).setCell ⟨w.heap.size+1,9,none⟩ (.int .i64 (pc:Nat))):=((Keep.refl _ _).setCell (.inl (by simp)) _).setCell (.inl (by simp)) _;have b5:=((b3.keep0 k4).set 7 (.int .i64 (fc:Nat))).set 9 (.int .i64 (pc:Nat));have b5r:=(b2.keep0 k4).keep hkz (by simp);have k5:=(k2.trans0 k4).trans hkz (fun x hx=>.inr (by simp at hx;omega));generalize (w4.setCell ⟨w.heap.size+1,7,none⟩ (.int .i64 (fc:Nat))).setCell ⟨w.heap.size+1,9,none⟩ (.int .i64 (pc:Nat))=w5 at *;simp at b5;have s5:w.heap.size+2≤w5.heap.size:=by have:=b5.lt;omega
 clear q7 q9 y0 y1 y2 y3 y4 y5 y6 y7 y8 y9 k4 hk4 k3 hk3 b3 b2 f7 f9 k2 s2 c0 c1 c2 c3 c4 c5 c6 c7 c8 c9 c10 c11 c12 c13 c14 c15 c16 c17 hFr hPe hkz hfc hpc;have c3:=(ZD (hblk.keep0 k5)).2.2.2.1
 gi_wp2_with (first
  | (refine⟨trivial,?_⟩;refine(QAV _ _ _ rfl).mono ?_;rintro e w' ⟨rfl,rfl⟩))
 obtain⟨w6,hw6⟩:∃ w6,w6=w5.alloc (.cells #[.pointer (some ⟨m,0,none⟩)] 46):=⟨_,rfl⟩;rw[← hw6];have k6:Keep [] w5 w6:=by rw[hw6];exact(Keep.refl _ _).alloc _
 have s6:w6.heap.size=w5.heap.size+1:=by rw[hw6];simp
 have bm:Boxed w6 w5.heap.size 46 (.pointer (some ⟨m,0,none⟩)):=by rw[hw6];exact Boxed.new w5 _ _
 have hlt:=hI.lt;have hseq:=YAc 2 w5.heap.size base m [w.heap.size+1] Fm I w6 (hI.keep0 (k5.trans0 k6)) bm (fun g hg hm=>by have:=hlt g hg;simp at hm;omega) (by simp;omega) (fun g hg=>by simp at hg;omega);have h0:KSta w #[.int .i64 mode,.int .i64 view,.int .i64 epoch,.int .i64 seq,.int .i64 done,.int .i64 mount,.int .i64 gen,.int .i64 (fc:Nat),.int .i64 0,.int .i64 (pc:Nat)] [] w6:=⟨b5.keep0 k6,b5r.keep0 k6,k5.trans0 k6⟩
 refine QAF (n:=3) (gf:=123) (lb:=#[.pointer (some ⟨w5.heap.size,0,none⟩)]) rfl (enters_of Tryz.func123 (by kernel_rfl) rfl)
  hseq
  (fun A B C h k=>h.trans k)
  (fun W o o' hg' ho=>KeepR.putObj (by omega) hg' ho)
  (fun _=>rfl) (KSta w #[.int .i64 mode,.int .i64 view,.int .i64 epoch,.int .i64 seq,.int .i64 done,.int .i64 mount,.int .i64 gen,.int .i64 (fc:Nat),.int .i64 0,.int .i64 (pc:Nat)]) (fun s A B h hk=>h.kept hk) (fun s W l o o' h hl hg' ho=>h.turned (by omega) hg' ho)
  (fun pre x W l o o' h hl hg' ho=>trivial) h0
  (fun y=>{ tmps:=#[.pointer (some ⟨s,0,none⟩),undef,.pointer (some ⟨w.heap.size,0,none⟩),.pointer (some ⟨w.heap.size+1,0,none⟩),.pointer (some ⟨s,0,none⟩),.bool false,undef,.pointer (some ⟨s,0,none⟩),.pointer (some ⟨s,0,none⟩),.pointer (some ⟨s,5,none⟩),.agg #[.int .i64 mode,.int .i64 view,.int .i64 epoch,.int .i64 seq,.int .i64 done,.int .i64 mount,.int .i64 gen,.int .i64 0,.int .i64 0,.int .i64 0],.pointer (some ⟨s,0,none⟩),.pointer (some ⟨s,0,none⟩),.pointer (some ⟨s,2,none⟩),.pointer (some ⟨t,0,none⟩),.int .i64 (fc:Nat),.pointer (some ⟨s,0,none⟩),.pointer (some ⟨s,0,none⟩),.pointer (some ⟨s,3,none⟩),.pointer (some ⟨m,0,none⟩),.int .i64 (pc:Nat),.pointer (some ⟨w.heap.size+1,7,none⟩),.pointer (some ⟨w.heap.size+1,9,none⟩),.pointer (some ⟨s,0,none⟩),.pointer (some ⟨s,0,none⟩),.pointer (some ⟨s,3,none⟩),.pointer (some ⟨m,0,none⟩),.func (.func 123) #[] #[.pointer (some ⟨w5.heap.size,0,none⟩)],.int .i64 (y.1:Nat),.int .i64 y.2,undef,undef,undef,undef,undef],defers:=[] }) ?assign ?body ?done
 case assign=>
  rintro l ⟨k,z⟩ W K hK;dsimp only[VM] at hK ⊢
  gi_wp2
  simpa using hK
 case body=>
  rintro l pre ⟨k,z⟩ W hI' -;dsimp only;obtain⟨q,hq⟩:∃ q,q=wrN pre.length:=⟨_,rfl⟩;have hw:=KAk pre.length;obtain⟨r,hr⟩:∃ r,r=wrN (pre.length+1):=⟨_,rfl⟩;rw[← hq,← hr] at hw;have hbx:=hI'.cnt;rw[← hq] at hbx;have hc8:W.cell? ⟨w.heap.size+1,8,none⟩=some (.int .i64 q):=by simpa using hbx.cell 8
  have hf8:=hbx.frozen 8;have hltB:=hbx.lt;have HI:=XC hI';have HR:=XC hr;clear h0 bm k6 hseq hI' hq hr hw6
  gi_wp2
  have hI':=JA HI;have hk3:Keep [w.heap.size+1] W (W.setCell ⟨w.heap.size+1,8,none⟩ (.int .i64 r)):=(Keep.refl _ _).setCell (p:=⟨w.heap.size+1,8,none⟩) (.inl (by simp)) _
  have hfc:KeepsFrom w6.heap.size W (W.setCell ⟨w.heap.size+1,8,none⟩ (.int .i64 r)):=hk3.fromCells (fun g hg o ho=>by
   rw[List.mem_singleton.1 hg] at ho;rw[show W.heap[_]? = _ from hbx] at ho;cases ho;rfl) _
  have hfc2:KeepsFrom (w6.heap.size+2) W (W.setCell ⟨w.heap.size+1,8,none⟩ (.int .i64 r)):=hk3.fromCells (fun g hg o ho=>by
   rw[List.mem_singleton.1 hg] at ho;rw[show W.heap[_]? = _ from hbx] at ho;cases ho;rfl) _
  refine⟨hfc,⟨KeepC.ofKeep hk3 (fun x hx=>hx),hfc2⟩,⟨?_,hI'.res.keep hk3 (by simp),hI'.keep.trans hk3 (fun x hx=>.inr (by simp at hx;omega))⟩⟩;have:=hbx.set 8 (.int .i64 r);rw[List.length_append,List.length_singleton,← JA HR];simpa using this
 case done=>
  intro D' xs W hD' hS hI' hdef;have hbx:=hI'.cnt;rw[hS,QAY _ (by have:=Zs I.bl I.ol I.bl.length;obtain⟨p1,p2,F1,F2,hi⟩:=hI;obtain⟨_,_,hb⟩:=hi.b;have:=hb.few;omega)] at hbx;obtain⟨q,hq⟩:∃ q,q=(VJ I.bl I.ol I.bl.length).length:=⟨_,rfl⟩;rw[← hq] at hbx;have HQ:=XC hq;clear hq;obtain⟨y0,y1,y2,y3,y4,y5,y6,y7,y8,y9⟩:=Vb (by simpa using hbx);have hbr:=hI'.res;obtain⟨z0,z1,z2,z3,z4,z5,z6,z7,z8,z9⟩:=Vb hbr;have q0:=hbr.frozen 0;have q1:=hbr.frozen 1;have q2:=hbr.frozen 2;have q3:=hbr.frozen 3;have q4:=hbr.frozen 4;have q5:=hbr.frozen 5;have q6:=hbr.frozen 6;have q7:=hbr.frozen 7;have q8:=hbr.frozen 8;have q9:=hbr.frozen 9;have HI:=XC hI';clear h0 bm k6 hseq hI' hw6
  gi_wp2
  have hI':=JA HI;have hz:=((((((((((hbr.set 0 (.int .i64 mode)).set 1 (.int .i64 view)).set 2 (.int .i64 epoch)).set 3 (.int .i64 seq)).set 4 (.int .i64 done)).set 5 (.int .i64 mount)).set 6 (.int .i64 gen)).set 7 (.int .i64 (fc:Nat))).set 8 (.int .i64 (q:Nat))).set 9 (.int .i64 (pc:Nat)));have hKs:=(((((((((((Keep.refl [w.heap.size] W).setCell (p:=⟨w.heap.size,0,none⟩) (.inl (by simp)) (.int .i64 mode)).setCell (p:=⟨w.heap.size,1,none⟩) (.inl (by simp)) (.int .i64 view)).setCell (p:=⟨w.heap.size,2,none⟩) (.inl (by simp)) (.int .i64 epoch)).setCell (p:=⟨w.heap.size,3,none⟩) (.inl (by simp)) (.int .i64 seq)).setCell (p:=⟨w.heap.size,4,none⟩) (.inl (by simp)) (.int .i64 done)).setCell (p:=⟨w.heap.size,5,none⟩) (.inl (by simp)) (.int .i64 mount)).setCell (p:=⟨w.heap.size,6,none⟩) (.inl (by simp)) (.int .i64 gen)).setCell (p:=⟨w.heap.size,7,none⟩) (.inl (by simp)) (.int .i64 (fc:Nat))).setCell (p:=⟨w.heap.size,8,none⟩) (.inl (by simp)) (.int .i64 (q:Nat))).setCell (p:=⟨w.heap.size,9,none⟩) (.inl (by simp)) (.int .i64 (pc:Nat)));simp only[List.setIfInBounds_toArray,List.set_cons_zero,List.set_cons_succ] at hz;have hdef2:((((((((((W.setCell ⟨w.heap.size,0,none⟩ (.int .i64 mode)).setCell ⟨w.heap.size,1,none⟩ (.int .i64 view)).setCell ⟨w.heap.size,2,none⟩ (.int .i64 epoch)).setCell ⟨w.heap.size,3,none⟩ (.int .i64 seq)).setCell ⟨w.heap.size,4,none⟩ (.int .i64 done)).setCell ⟨w.heap.size,5,none⟩ (.int .i64 mount)).setCell ⟨w.heap.size,6,none⟩ (.int .i64 gen)).setCell ⟨w.heap.size,7,none⟩ (.int .i64 (fc:Nat))).setCell ⟨w.heap.size,8,none⟩ (.int .i64 (q:Nat))).setCell ⟨w.heap.size,9,none⟩ (.int .i64 (pc:Nat))).heap[D']? = some (.deferred (some [])):=(hKs.block D' (Array.getElem?_eq_some_iff.1 hdef).1 (by simp;omega)).trans hdef;have hzz:=XH (.deferred none) hz hdef2 rfl;obtain⟨e0,e1,e2,e3,e4,e5,e6,e7,e8,e9⟩:=Vb hzz;have hkw:=(hI'.keep.trans hKs (fun x hx=>.inr (by simp at hx;omega))).putObj (g:=D') (by omega) (.deferred none);refine⟨by simp,.inl ⟨_,_,rfl,run_takeDeferred hdef2,?_⟩⟩;refine⟨.agg #[.int .i64 mode,.int .i64 view,.int .i64 epoch,.int .i64 seq,.int .i64 done,.int .i64 mount,.int .i64 gen,.int .i64 (fc:Nat),.int .i64 (q:Nat),.int .i64 (pc:Nat)],?_,by rw[JA HQ];rfl,hkw⟩;simp[results,Tryz.results85,go_sem,e0,e1,e2,e3,e4,e5,e6,e7,e8,e9]
theorem Xp (w:World) (base s d g t p m:Nat) (Fd Ft Fw Fm:List Nat) (L0 L1:Value) (B:Nat) (S:PS) (h:StoreIs w base s d g t p m Fd Ft Fw Fm L0 L1 B S) :
 Calls Tryz.prog 85 #[.pointer (some ⟨s,0,none⟩)] w fun e w'=>e=.returned (.agg (ZBD S).toArray)∧Keep [] w w':=
 VAO w base s d g t p m Ft Fm L0 L1 S h.blk h.log.tab h.img
end
section
open Go.RowKit
section
variable (w:World) (base x:Nat) (L:Value) (F:List Nat) (next:Nat) (sl:List PSlot) (h:WinIs w base x L F next sl)
include h
theorem WinIs.slot (g c:Nat) (hL:L=.slice (some ⟨g,0,none⟩) sl.length c) (i:Nat) (hi:i<sl.length) :
 w.cell? ⟨g,i*6,none⟩=some (.int .i64 sl[i].o.k)∧w.cell? ⟨g,i*6+1,none⟩=some (.int .i64 sl[i].o.b)∧w.cell? ⟨g,i*6+2,none⟩=some (.int .i64 sl[i].o.c)∧w.cell? ⟨g,i*6+3,none⟩=some (.int .i64 sl[i].o.e)∧w.cell? ⟨g,i*6+4,none⟩=some sl[i].v∧w.cell? ⟨g,i*6+5,none⟩=some (.bool sl[i].is):=by
 subst hL;have hr:=h.row;refine⟨?_,?_,?_,?_,?_,?_⟩
 · exact ZF hr (by rw[show i*6=i*6+0 from rfl,YH YL sl i 0 hi (by omega)];rfl)
 · exact ZF hr (by rw[YH YL sl i 1 hi (by omega)];rfl)
 · exact ZF hr (by rw[YH YL sl i 2 hi (by omega)];rfl)
 · exact ZF hr (by rw[YH YL sl i 3 hi (by omega)];rfl)
 · exact ZF hr (by rw[YH YL sl i 4 hi (by omega)];rfl)
 · exact ZF hr (by rw[YH YL sl i 5 hi (by omega)];rfl)
end
end
section
open Go.RowKit
theorem PSlot.none_dat (w:World) (base:Nat):w.ownsRow base 5 1 PSlot.none_.v PSlot.none_.o.d.length (bys PSlot.none_.o.d):=World.ownsRow_nil _ _ _ _
section
variable (w:World) (base x:Nat) (L:Value) (F:List Nat) (next:Nat) (sl:List PSlot) (h:WinIs w base x L F next sl)
include h
end
end
section
open Go.RowKit
theorem elemSlot:ElemN Tryz.prog 322 326 (.agg #[.int .i64 0,.int .i64 0,.int .i64 0,.int .i64 0,.slice none 0 0,.bool false]) 6 64:=ElemN.of Tryz.underlying322 (by kernel_rfl) rfl (by omega)
section
variable (w:World) (base x:Nat) (L:Value) (F:List Nat) (next:Nat) (sl:List PSlot) (h:WinIs w base x L F next sl)
include h
end
end
section
open Go.RowKit Go.Shelf
attribute [local go_sem] Oper.semAt_some
theorem WinIs.putObj {W:World} {base x k next:Nat} {L:Value} {F:List Nat} {sl:List PSlot} {o:Obj} (h:WinIs W base x L F next sl) (o':Obj) (hl:W.heap[k]? = some o) (ho:o.isCells=false):WinIs (W.putObj k o') base x L F next sl:=
 ⟨XH o' h.blk hl ho,ownsRow_putObj h.row o' hl ho,fun q hq=>ownsRow_putObj (h.dat q hq) o' hl ho,h.foot,h.base,h.pos,h.few,h.zero,h.nb⟩
abbrev WRnd:=Nat×PSlot
end
section
open Go.RowKit Go.Shelf
attribute [local go_sem] Oper.semAt_some
structure KLen (w:World) (pre:List WRnd) (W:World):Prop where
 cnt:Boxed W w.heap.size 3 (.int .i64 (pre.length:Nat))
 keep:Keep [] w W
theorem KLen.kept {w A B:World} {pre:List WRnd} (h:KLen w pre A) (hk:Keep [] A B):KLen w pre B:=⟨KA h.cnt hk (by simp),h.keep.trans0 hk⟩
theorem KLen.turned {w W:World} {k:Nat} {pre:List WRnd} {o o':Obj} (h:KLen w pre W) (hl:w.heap.size≤k) (hg:W.heap[k]? = some o) (ho:o.isCells=false):KLen w pre (W.putObj k o'):=
 ⟨ZC o' h.cnt hg ho,h.keep.putObj hl o'⟩
theorem JAQ (m:Nat):(madeCells #[.int .i64 0,.int .i64 0,.int .i64 0,.int .i64 0,.slice none 0 0,.bool false] (m*6)).toList=(KM m).flatMap slc:=by
 apply List.ext_getElem?;intro j
 by_cases hj:j<m*6
 · have h1:(KM m)[j / 6]'(by simp[KM];omega)=PSlot.none_:=by simp[KM]
   have h2:=YH YL (KM m) (j / 6) (j % 6) (by simp[KM];omega) (by omega);rw[show j / 6*6+j % 6=j by omega,h1] at h2;rw[h2];have:j % 6=0∨j % 6=1∨j % 6=2∨j % 6=3∨j % 6=4∨j % 6=5:=by omega
   rw[Array.getElem?_toList,madeCells,Array.getElem?_map,Array.getElem?_range,if_pos hj];simp only[Option.map_some,List.size_toArray,List.length_cons,List.length_nil];rcases this with h | h | h | h | h | h <;> (rw[show j % (0+1+1+1+1+1+1)=j % 6 from rfl,h];rfl)
 · rw[List.getElem?_eq_none (by rw[Array.length_toList,size_madeCells];omega),List.getElem?_eq_none (by rw[KZ YL];simp[KM];omega)]
theorem ZAU (m next:Nat) (h1:1≤m) (h2:m≤16) (h3:1≤next∧next≤1000000000) (w:World) :
 Calls Tryz.prog 223 #[.int .i64 (m:Nat),.int .i64 (next:Nat)] w fun e w'=>∃ x,e=.returned (.pointer (some ⟨x,0,none⟩))∧∃ F,WinAt w' w.heap.size x F next (KM m)∧Keep [] w w':=by
 have i1:¬ ((m:Nat):Int)<1:=by omega
 have i2:¬ (16:Int)<((m:Nat):Int):=by omega
 have i3:¬ ((next:Nat):Int)<1:=by omega
 have i4:¬ (2147483647:Int)<((next:Nat):Int):=by omega
 go_enter Tryz.func223,Tryz.ntmps223
 go_wp2_with (at_make;refine elemSlot.wp_make rfl _ _ rfl .i64 .i64 m rfl rfl (by omega) (by omega) ?_;intro w1 g1 hg1 hs1 hb1 hk1;obtain rfl:g1=w.heap.size:=hg1;clear hs1)
 go_ret
 have hb2:w1.ownsRow w.heap.size 326 6 (.slice (some ⟨w.heap.size,0,none⟩) m m) m ((KM m).flatMap slc):=
  ⟨by rw[KZ YL];simp[KM],.inr ⟨w.heap.size,m,_,rfl,Nat.le_refl _,hb1,Nat.le_refl _,by simp[maxLen];omega,by rw[size_madeCells],by rw[← JAQ];exact List.take_of_length_le (by rw[Array.length_toList,size_madeCells];exact Nat.le_refl _)⟩⟩
 refine⟨_,rfl,⟨_,_,Blk.new _ _ _,by have:=VC hb2 (.cells #[.slice (some ⟨w.heap.size,0,none⟩) m m,.int .i64 (next:Nat)] 324);simpa [KM] using this,fun q hq=>?_,rfl,hk1.size,by simpa [KM] using h1,by simpa [KM] using h2,fun q hq _=>?_,by omega⟩,hk1.alloc _⟩
 · rw[List.eq_of_mem_replicate hq];exact PSlot.none_dat _ _
 · exact List.eq_of_mem_replicate hq
end
section
open Go.RowKit Go.Shelf
structure ReplicaIs (w:World) (base r s d x:Nat) (Fs Fx:List Nat) (B:Nat) (R:RS):Prop where
 blk:Blk w r 224 #[.pointer (some ⟨s,0,none⟩),.pointer (some ⟨x,0,none⟩)]
 st:StoreAt w base s d Fs B R.S
 win:WinAt w base x Fx R.next R.sl
 ap:Apart Fs Fx
 rs:r∉Fs
 rx:r∉Fx
 rb:base≤r
 mode:R.S.st.mode=1
 view:1≤R.S.st.view∧R.S.st.view≤2147483647
def Jm (r:Nat) (Fs Fx:List Nat):List Nat:=r :: (Fs++Fx)
namespace ReplicaIs
variable {w w':World} {base r s d x:Nat} {Fs Fx l:List Nat} {B:Nat} {R:RS}
theorem keep (h:ReplicaIs w base r s d x Fs Fx B R) (hk:Keep l w w') (ha:Apart (Jm r Fs Fx) l):ReplicaIs w' base r s d x Fs Fx B R:=
 ⟨h.blk.keep hk (ha r (by simp[Jm])),h.st.keep hk (fun y hy=>ha y (by simp[Jm,hy])),h.win.keep hk (fun y hy=>ha y (by simp[Jm,hy])),h.ap,h.rs,h.rx,h.rb,h.mode,h.view⟩
theorem keep0 (h:ReplicaIs w base r s d x Fs Fx B R) (hk:Keep [] w w'):ReplicaIs w' base r s d x Fs Fx B R:=h.keep hk Apart.nil_right
theorem lt (h:ReplicaIs w base r s d x Fs Fx B R):∀ y∈Jm r Fs Fx,y<w.heap.size:=fun y hy=>by
 simp only[Jm,List.mem_cons,List.mem_append] at hy;rcases hy with rfl | hy | hy
 · exact h.blk.lt
 · exact h.st.lt y hy
 · exact h.win.lt y hy
theorem ge (h:ReplicaIs w base r s d x Fs Fx B R):∀ y∈Jm r Fs Fx,base≤y:=fun y hy=>by
 simp only[Jm,List.mem_cons,List.mem_append] at hy;rcases hy with rfl | hy | hy
 · exact h.rb
 · exact h.st.ge y hy
 · exact h.win.ge y hy
theorem cells (h:ReplicaIs w base r s d x Fs Fx B R):w.cell? ⟨r,0,none⟩=some (.pointer (some ⟨s,0,none⟩))∧w.cell? ⟨r,1,none⟩=some (.pointer (some ⟨x,0,none⟩)):=⟨by simpa using h.blk.cell 0,by simpa using h.blk.cell 1⟩
end ReplicaIs
theorem KAG (w:World) (base s d:Nat) (F:List Nat) (B:Nat) (S:PS) (h:StoreAt w base s d F B S):Calls Tryz.prog 85 #[.pointer (some ⟨s,0,none⟩)] w fun e w'=>e=.returned (.agg #[.int .i64 S.st.mode,.int .i64 S.st.view,.int .i64 S.st.epoch,.int .i64 S.st.seq,.int .i64 S.st.done,.int .i64 S.st.mount,.int .i64 S.st.gen,.int .i64 (JD S.us:Nat),.int .i64 (XAT S:Nat),.int .i64 (ZG S.I.ol:Nat)])∧Keep [] w w':=by
 obtain⟨g,t,p,m,Fd,Ft,Fw,Fm,L0,L1,h,rfl⟩:=h;exact Xp w base s d g t p m Fd Ft Fw Fm L0 L1 B S h
section
variable (w:World) (base r s d x:Nat) (Fs Fx:List Nat) (B:Nat) (R:RS) (h:ReplicaIs w base r s d x Fs Fx B R)
include h
end
end
section
open Go.RowKit Go.Shelf
section
variable (w:World) (base r s d x:Nat) (Fs Fx:List Nat) (B:Nat) (R:RS) (h:ReplicaIs w base r s d x Fs Fx B R)
include h
end
end
section
open Go.RowKit Go.Shelf
structure OnInv (w:World) (base r s d x:Nat) (Fs Fx:List Nat) (B:Nat) (R:RS) (k j:Nat) (Fs1 Fx1:List Nat) (R1:RS) (k1 j1 bo:Nat) (A:Option Addr) (c:Nat) (wr:World):Prop where
 rep:ReplicaIs wr base r s d x Fs1 Fx1 B R1
 ran:∀ R' e,Ran B R1 R' e→Ran B R R' e
 good:Good B R1.S k1 j1
 kb:k1+Jf R1.sl≤k+Jf R.sl
 jb:j1+2*Jf R1.sl≤j+2*Jf R.sl
 nb:R1.next+Jf R1.sl=R.next+Jf R.sl
 ops:∀ q∈R1.sl,q.is=true→VAr B q.o
 keep:Keep (Jm r Fs Fx) w wr
 grow:Grow w (Jm r Fs Fx) (Jm r Fs1 Fx1)
 blk:Blk wr bo 137 #[.int .i64 R1.cur.o.k,.int .i64 R1.cur.o.b,.int .i64 R1.cur.o.c,.int .i64 R1.cur.o.e,.slice A R1.cur.o.d.length c]
 val:R1.cur.v=.slice A R1.cur.o.d.length c
 bnew:bo∉Jm r Fs1 Fx1
 bge:w.heap.size≤bo
end
section
open Go.RowKit Go.Shelf
end
section
open Go.RowKit Go.Shelf
section
variable (w:World) (base r s d x:Nat) (Fs Fx:List Nat) (B:Nat) (R:RS) (h:ReplicaIs w base r s d x Fs Fx B R) (hbase:base≤w.heap.size) (k b c e m fs:Nat) (xs:List UInt8) (A:Option Addr) (cp:Nat)
 (ha:Rd w A (25+m) (bys (VZ k R.S.st.view fs b c e 0 xs))) (ho:KBD k b c e m) (hlen:xs.length=m) (hfor:b+max c 1≤B∨k=3) (hfs:1≤fs∧fs≤2147483647)
include h hbase ha ho hlen hfor hfs
end
theorem WinIs.down {w:World} {b1 b2 x next:Nat} {L:Value} {F:List Nat} {sl:List PSlot} (h:WinIs w b2 x L F next sl) (hb:b1≤b2):WinIs w b1 x L F next sl:=
 ⟨h.blk,KB h.row hb,fun q hq=>KB (h.dat q hq) hb,h.foot,Nat.le_trans hb h.base,h.pos,h.few,h.zero,h.nb⟩
section
variable (w:World) (base s d:Nat) (Fs:List Nat) (B:Nat) (S:PS) (h:StoreAt w base s d Fs B S) (hs:S.st.seq≤1000000)
include h hs
theorem ZAx (m:Nat) (h1:1≤m) (h2:m≤16) (hmode:S.st.mode=1) (hview:1≤S.st.view∧S.st.view≤2147483647) (hbase:base≤w.heap.size) :
 Calls Tryz.prog 137 #[.pointer (some ⟨s,0,none⟩),.int .i64 (m:Nat)] w fun e w'=>∃ r x Fx,e=.returned (.pointer (some ⟨r,0,none⟩))∧ReplicaIs w' base r s d x Fs Fx B ⟨S,S.st.seq+1,KM m⟩∧Keep [] w w'∧(∀ y∈Jm r Fs Fx,y∈Fs∨w.heap.size≤y):=by
 have hS:=KAG w base s d Fs B S h
 have hres:∀ w2 x F r,Keep [] w w2→WinAt w2 w.heap.size x F (S.st.seq+1) (KM m)→r=w2.heap.size→ReplicaIs (w2.alloc (.cells #[.pointer (some ⟨s,0,none⟩),.pointer (some ⟨x,0,none⟩)] 224)) base r s d x Fs F B ⟨S,S.st.seq+1,KM m⟩∧(∀ y∈Jm r Fs F,y∈Fs∨w.heap.size≤y):=by
  intro w2 x F r hk hw hr;subst hr;have hka:=(Keep.refl [] w2).alloc (.cells #[.pointer (some ⟨s,0,none⟩),.pointer (some ⟨x,0,none⟩)] 224);obtain⟨L,hL⟩:=hw;have hge:=hL.ge;have hlt:=hL.lt;refine⟨⟨Blk.new _ _ _,h.keep0 (hk.trans0 hka),⟨L,(hL.down hbase).keep0 hka⟩,fun y hy hm=>?_,fun hm=>?_,fun hm=>?_,?_,hmode,hview⟩,?_⟩
  · have:=h.lt y hy;have:=hge y hm;omega
  · have:=h.lt _ hm;have:=hk.size;omega
  · have:=hlt _ hm;omega
  · have:=hk.size;omega
  · intro y hy
    simp only[Jm,List.mem_cons,List.mem_append] at hy;rcases hy with hy | hy | hy
    · exact .inr (by have:=hk.size;omega)
    · exact .inl hy
    · exact .inr (hge y hy)
 generalize hst:S.st=st at *;obtain⟨mode,view,epoch,seq,done,mount,gen⟩:=st;simp only at hS hs hres hmode ⊢;have hW:=fun W=>ZAU m (seq+1) h1 h2 (by omega) W;rw[Int.natCast_add] at hW;have hfd:=fun(a0 a1 a2 a3 a4 a5 a6 a7 a8 a9:Value) W=>VE (P:=Tryz.prog) Tryz.underlying72 3 rfl Tryz.isAgg3 #[a0,a1,a2,a3,a4,a5,a6,a7,a8,a9] rfl W
 go_enter Tryz.func137,Tryz.ntmps137
 go_wp2_with (first
  | (go_at_call 85;refine hS.mono ?_;clear hS;rintro e w1 ⟨rfl,hk1⟩)
  | (go_at_call 223;refine(hW _).mono ?_;clear hW;rintro e w2 ⟨x,rfl,F,hF,hk2⟩))
 go_ret;have hkk:=hk1.trans0 hk2;obtain⟨L,hL⟩:=hF;obtain⟨q1,q2⟩:=hres w2 x F _ hkk ⟨L,hL.down hk1.size⟩ rfl;exact⟨_,x,F,rfl,q1,hkk.alloc _,q2⟩
end
section
variable (w:World) (base r s d x:Nat) (Fs Fx:List Nat) (B:Nat) (R:RS) (h:ReplicaIs w base r s d x Fs Fx B R)
include h
end
end
section
open Go.RowKit Go.Shelf
def AckRow (w w':World) (st:PSt) (A:Option Addr) (c:Nat):Prop:=w'.ownsRow w.heap.size 5 1 (.slice A 25 c) 25 (bys (VZ 8 st.view st.seq 0 0 st.epoch st.done []))
@[simp] theorem length_emptyW (m:Nat):(KM m).length=m:=by simp[KM]
def Off (N:List Nat) (w:World) (F:List Nat):Prop:=∀ b∈N,b∉F∧b<w.heap.size
namespace Off
variable {N:List Nat} {w w':World} {F F':List Nat}
theorem nil:Off [] w F:=fun _ h=>by cases h
theorem keep0 (h:Off N w F) (hk:Keep [] w w'):Off N w' F:=fun b hb=>⟨(h b hb).1,Nat.lt_of_lt_of_le (h b hb).2 hk.size⟩
theorem turn (h:Off N w F) (hk:Keep F w w') (hg:Grow w F F'):Off N w' F':=fun b hb=>⟨fun hm=>(hg b hm).elim (h b hb).1 (by have:=(h b hb).2;omega),Nat.lt_of_lt_of_le (h b hb).2 hk.size⟩
theorem keepN (h:Off N w F) (hk:Keep F w w'):KeepN N w w':=⟨F,hk,fun b hb=>(h b hb).1⟩
theorem add (h:Off N w F) (hk:Keep [] w w') {b:Nat} (h1:w.heap.size≤b) (h2:b<w'.heap.size) (hF:∀ x∈F,x<w.heap.size):Off (b :: N) w' F:=fun x hx=>by
 rcases List.mem_cons.1 hx with rfl | hx
 · exact⟨fun hm=>by have:=hF _ hm;omega,h2⟩
 · exact h.keep0 hk x hx
end Off
theorem AckRow.rd {w w':World} {st:PSt} {A:Option Addr} {c v s e d:Nat} (h:AckRow w w' st A c) (h1:st.view=v) (h2:st.seq=s) (h3:st.epoch=e) (h4:st.done=d):Rd w' A 25 (bys (VZ 8 v s 0 0 e d [])):=by
 subst h1 h2 h3 h4;exact Rd.of_own h
end
section
open Go.RowKit Go.Shelf
section
variable (w:World) (base r s d x:Nat) (Fs Fx:List Nat) (B:Nat) (R:RS) (h:ReplicaIs w base r s d x Fs Fx B R)
include h
end
end
section
open Go.RowKit Go.Shelf
def Unready (r z:Nat) (w:World):Prop:=∀ W,Keep [] w W→Calls Tryz.prog 141 #[.pointer (some ⟨r,0,none⟩)] W fun e w'=>e=.returned (.int .i64 z)∧Keep [] W w'
theorem Unready.keep0 {r z:Nat} {w w':World} (h:Unready r z w) (hk:Keep [] w w'):Unready r z w':=fun W hW=>h W (hk.trans0 hW)
theorem VAW (w:World) (r s x:Nat) (hb:Blk w r 224 #[.pointer (some ⟨s,0,none⟩),.pointer (some ⟨x,0,none⟩)]):Calls Tryz.prog 139 #[.pointer (some ⟨r,0,none⟩)] w fun e w'=>e=.returned (.pointer (some ⟨s,0,none⟩))∧w=w':=by
 have c0:w.cell? ⟨r,0,none⟩=some (.pointer (some ⟨s,0,none⟩)):=by simpa using hb.cell 0
 go_enter Tryz.func139,Tryz.ntmps139
 go_wp2
 go_ret;exact⟨rfl,rfl⟩
end
section
open Go.RowKit Go.Shelf
structure FrSt (w0 w:World) (B f r s d x:Nat) (Fs Fx:List Nat) (R:RS):Prop where
 blk:Blk w f 218 #[.pointer (some ⟨r,0,none⟩)]
 rep:ReplicaIs w w0.heap.size r s d x Fs Fx B R
 fn:f∉Jm r Fs Fx
 fb:w0.heap.size≤f
 kept:Keep [] w0 w
namespace FrSt
variable {w0 w w':World} {B f r s d x:Nat} {Fs Fx:List Nat} {R:RS}
theorem keep0 (h:FrSt w0 w B f r s d x Fs Fx R) (hk:Keep [] w w'):FrSt w0 w' B f r s d x Fs Fx R:=⟨h.blk.keep0 hk,h.rep.keep0 hk,h.fn,h.fb,h.kept.trans0 hk⟩
theorem lt (h:FrSt w0 w B f r s d x Fs Fx R):f<w.heap.size:=h.blk.lt
theorem turn (h:FrSt w0 w B f r s d x Fs Fx R) {Fs' Fx':List Nat} {R':RS} (hr:ReplicaIs w' w0.heap.size r s d x Fs' Fx' B R') (hk:Keep (Jm r Fs Fx) w w') (hg:Grow w (Jm r Fs Fx) (Jm r Fs' Fx')):FrSt w0 w' B f r s d x Fs' Fx' R':=by
 have hlt:=h.lt;have hge:=h.rep.ge;exact⟨h.blk.keep hk h.fn,hr,fun hm=>(hg f hm).elim h.fn (by omega),h.fb,h.kept.trans hk (fun y hy=>.inr (hge y hy))⟩
end FrSt
theorem QAs (w:World) (f r:Nat) (h:Blk w f 218 #[.pointer (some ⟨r,0,none⟩)]):Calls Tryz.prog 82 #[.pointer (some ⟨f,0,none⟩)] w fun e w'=>e=.returned (.pointer (some ⟨r,0,none⟩))∧w=w':=by
 have c0:w.cell? ⟨f,0,none⟩=some (.pointer (some ⟨r,0,none⟩)):=by simpa using h.cell 0
 go_enter Tryz.func82,Tryz.ntmps82
 go_wp2
 go_ret;exact⟨rfl,rfl⟩
theorem Qb (w:World) (f r s x:Nat) (h:Blk w f 218 #[.pointer (some ⟨r,0,none⟩)]) (hr:Blk w r 224 #[.pointer (some ⟨s,0,none⟩),.pointer (some ⟨x,0,none⟩)]) :
 Calls Tryz.prog 79 #[.pointer (some ⟨f,0,none⟩)] w fun e w'=>e=.returned (.pointer (some ⟨s,0,none⟩))∧w=w':=by
 have hE:=QAs w f r h;have hS:=VAW w r s x hr
 go_enter Tryz.func79,Tryz.ntmps79
 go_wp2_with (first
  | (go_at_call 82;refine hE.mono ?_;clear hE;rintro e w' ⟨rfl,rfl⟩)
  | (go_at_call 139;refine hS.mono ?_;clear hS;rintro e w' ⟨rfl,rfl⟩))
 go_ret;exact⟨rfl,rfl⟩
end
section
open Go.RowKit Go.Shelf
attribute [local go_sem] Oper.semAt_some
theorem JAT (n:Nat) (v:Value) (w:World) (hv:v.oneCell'=true) :
 CallsIn Fence.wide n Tryz.prog 400 #[v] w fun e w'=>e=.returned (.func (.func 412) #[] #[.pointer (some ⟨w.heap.size,0,none⟩)])∧w'=w.alloc (.cells #[v] 92):=by
 refine(callsIn_wide (n:=n)).2 ?_
 go_enter Tryz.func400,Tryz.ntmps400
 go_wp2
 go_ret;exact⟨rfl,rfl⟩
theorem QAB (w:World) (v:Value) (tb base t g:Nat) (F:List Nat) (us:List (Nat×Nat)) (lv:List Nat) (hb:Boxed w tb 92 (.pointer (some ⟨t,0,none⟩))) (h:TableAt w base t g F us lv) (hno:∀ s,s<8→(us.getD s (0,0)).1≠2) :
 Calls Tryz.prog 412 #[v,.pointer (some ⟨tb,0,none⟩)] w fun e w'=>(∃ u,e=.returned u)∧Keep [] w w':=by
 obtain⟨L,V,h⟩:=h;obtain⟨l,lc,lv',vc,rfl,rfl,hlv,htl,htv⟩:=h.forms;obtain⟨c0,c1,c2⟩:=h.cells;have hul:=h.ulen;have HK:Hid (∀ W,Keep [] w W→TableIs W base t g (.slice (some ⟨l,0,none⟩) 8 lc) (.slice (some ⟨lv',0,none⟩) 8 vc) F us lv):=fun W hk=>h.keep0 hk;have hc:=hb.cell;have HNO:=XC hno;have HUL:=XC hul;clear hno c0 c2 hul
 go_enter Tryz.func412,Tryz.ntmps412
 go_wp2
 go_loopw [11] (fun i wr=>∃ k:Nat,k≤8∧i=.int .i64 k∧Keep [] w wr) (fun i _=>8-(intOf i).toNat)
 case atStart=>exact⟨0,by omega,rfl,Keep.refl _ _⟩
 case round=>
  obtain⟨k,hk,rfl,hkp⟩:=hrel
  by_cases hlt:k<8
  · have hkl:k<us.length:=by rw[JA HUL];exact hlt
    have u1:=((JA HK _ hkp).use k hlt).1;have hcK:=(KA hb hkp (by simp)).cell;have c1K:=(JA HK _ hkp).cells.2.1;have hx:=JA HNO k hlt;rw[JH hkl] at hx;generalize us[k].1=x at *;have q1:¬ ((x:Nat):Int)=2:=by omega
    have q2:(((x:Nat):Int) == 2)=false:=by simpa using q1
    have hltI:((k:Nat):Int)<8:=by omega
    clear hx
    go_wp2
    go_roundw
    case rel=>exact⟨k+1,by omega,by go_num,hkp⟩
    case measure=>simp[intOf];omega
  · obtain rfl:k=8:=by omega
    go_wp2
    go_end0
    exact⟨⟨_,rfl⟩,hkp⟩
theorem Yy (w:World) (t g base:Nat) (now:Int) (F:List Nat) (us:List (Nat×Nat)) (lv:List Nat) (ht:TableAt w base t g F us lv) (hno:∀ s,s<8→(us.getD s (0,0)).1≠2) :
 Calls Tryz.prog 370 #[.pointer (some ⟨g,0,none⟩),.pointer (some ⟨t,0,none⟩),.int .i64 now] w fun e w'=>e=.returned (.tuple #[.int .i64 0,.bool false])∧Keep [] w w':=by
 refine(callsIn_wide (n:=6)).1 ?_;refine callsIn_of_wp_marks Tryz.func370 rfl trivial ?_ rfl;simp only[Tryz.ntmps370,List.size_toArray,List.length_cons,List.length_nil,Nat.reduceAdd,Nat.reduceSub,Array.replicate_succ,Array.replicate_zero,List.push_toArray,List.append_toArray,List.nil_append,List.cons_append];have hSi:=fun W=>JAT (6-1) (.pointer (some ⟨t,0,none⟩)) W rfl
 gi_wp2_with (refine⟨trivial,?_⟩;refine(hSi _).mono ?_;clear hSi;rintro e w' ⟨rfl,rfl⟩)
 obtain⟨w2,hw2⟩:∃ w2,w2=(((((w.alloc (.cells #[.pointer (some ⟨g,0,none⟩)] 55)).alloc (.cells #[.pointer (some ⟨t,0,none⟩)] 92)).alloc (.cells #[.int .i64 now] 3)).alloc (.cells #[.int .i64 0,.int .i64 0,.int .i64 0] 468)).alloc (.cells #[.bool false] 4)).alloc (.cells #[.pointer (some ⟨t,0,none⟩)] 92):=⟨_,rfl⟩;have hkw:Keep [] w w2:=by rw[hw2];exact((((((Keep.refl _ _).alloc _).alloc _).alloc _).alloc _).alloc _).alloc _
 have q3:Blk w2 (w.heap.size+1+1+1) 468 #[.int .i64 0,.int .i64 0,.int .i64 0]:=by
  have:=((Blk.new (((w.alloc (.cells #[.pointer (some ⟨g,0,none⟩)] 55)).alloc (.cells #[.pointer (some ⟨t,0,none⟩)] 92)).alloc (.cells #[.int .i64 now] 3)) 468 #[.int .i64 0,.int .i64 0,.int .i64 0]).alloc (.cells #[.bool false] 4)).alloc (.cells #[.pointer (some ⟨t,0,none⟩)] 92);simp only[World.size_alloc] at this;rw[hw2];exact this
 have q4:Blk w2 (w.heap.size+1+1+1+1) 4 #[.bool false]:=by
  have:=(Blk.new ((((w.alloc (.cells #[.pointer (some ⟨g,0,none⟩)] 55)).alloc (.cells #[.pointer (some ⟨t,0,none⟩)] 92)).alloc (.cells #[.int .i64 now] 3)).alloc (.cells #[.int .i64 0,.int .i64 0,.int .i64 0] 468)) 4 #[.bool false]).alloc (.cells #[.pointer (some ⟨t,0,none⟩)] 92);simp only[World.size_alloc] at this;rw[hw2];exact this
 have q5:Boxed w2 (w.heap.size+1+1+1+1+1) 92 (.pointer (some ⟨t,0,none⟩)):=by
  have:=Boxed.new (((((w.alloc (.cells #[.pointer (some ⟨g,0,none⟩)] 55)).alloc (.cells #[.pointer (some ⟨t,0,none⟩)] 92)).alloc (.cells #[.int .i64 now] 3)).alloc (.cells #[.int .i64 0,.int .i64 0,.int .i64 0] 468)).alloc (.cells #[.bool false] 4)) 92 (.pointer (some ⟨t,0,none⟩));simp only[World.size_alloc] at this;rw[hw2];exact this
 rw[← hw2];clear hw2
 refine XT (n:=6) (gf:=412) (lb:=#[.pointer (some ⟨w.heap.size+1+1+1+1+1,0,none⟩)]) rfl (enters_of Tryz.func412 (by kernel_rfl) rfl) [] (by simp) (fun _=>True)
  (fun W l o o' h hl hg' ho=>trivial) (fun l W hW hW2=>?_) (fun D' W hD' hk _ hdef=>?_)
 · refine((callsIn_wide (n:=6-1)).2 (QAB W _ _ base t g F us lv (KA q5 hW (by simp)) (by obtain⟨L,V,h⟩:=ht;exact⟨L,V,(h.keep0 hkw).keep0 hW⟩) hno)).mono ?_
   rintro e W' ⟨h1,h2⟩;exact⟨h1,h2,trivial⟩
 have u3:=q3.keep0 hk;have u4:=q4.keep0 hk;have hkW:=hkw.trans0 hk;have hD1:w.heap.size≤D':=by have:=hkw.size;omega
 clear q3 q4 q5 hk hkw hD'
 gi_wp2
 refine XF (wpIn_wide.2 ?_);have hkd:Keep [] W W.drew:=(Keep.refl [] W).drew;refine ZT (fun X=>X.cell? ⟨w.heap.size+1+1+1,2,none⟩=some (.int .i64 0)∧X.cell? ⟨w.heap.size+1+1+1+1,0,none⟩=some (.bool false)) 4 [[0,1,2,3]] ⟨by simpa using(u3.keep0 hkd).cell 2,by simpa using(u4.keep0 hkd).cell 0⟩ ?_;simp only[PI]
 iterate 4 (refine ZH ?_;simp only[Act.put,PU])
 refine QC ?_;have hdef2:=hkd.heap_same hdef;have hkW2:=hkW.trans0 hkd;clear u3 u4 hdef hkW hkd;generalize W.drew=X at *
 go_wp2_with fail
 gi_wp2
 refine⟨by simp,.inl ⟨_,_,rfl,run_takeDeferred hdef2,?_⟩⟩;refine⟨.tuple #[.int .i64 0,.bool false],?_,rfl,hkW2.putObj (by omega) _⟩;simp[results,Tryz.results370,go_sem]
end
end Go.Proofs.YtkonbpfbjiepfaaGreat
