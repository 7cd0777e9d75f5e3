/- Lemmas of the proof, with their conditions. -/
import Derived.Test.YtkonbpfbjiepfaaGreatP40
namespace Go.Proofs.YtkonbpfbjiepfaaGreat
set_option linter.unusedSimpArgs false
set_option linter.unusedVariables false
set_option maxHeartbeats 4000000
set_option maxRecDepth 100000
section
open Go.RowKit Go.Shelf
def XBL (B:Nat) (D:PDisk):PDisk:=((D.write (6+4*pgs B) (List.replicate 64 0)).write 0 (VAL B 1 2)).flush
def PS.mounted (B:Nat) (D:PDisk) (od:List Bool):PS:=
 ⟨XBL B D,us0,List.replicate 8 0,⟨⟨0,0,1,0,2⟩,[],[]⟩,⟨List.replicate B 0,List.replicate (pgs B) false,List.replicate B (-1),od⟩,⟨1,1,0,0,0,2,1⟩,0,List.replicate (pgs B) 0,List.replicate (pgs B) 0⟩
theorem ZBB (w:World) (d base B:Nat) (F:List Nat) (D:PDisk) (h:DiskAt w base d F D) (hoff:D.off=false) (hfuse:D.fuse = -1) (ha:D.acts≤1000000) (hfl:∀ k,k<D.n→D.faults[k]? = some false) (hF:Fmt B D) (h1:1≤B) (h2:B≤64) (hbase:base≤w.heap.size) :
 Calls Tryz.prog 136 #[.pointer (some ⟨d,0,none⟩)] w fun e w'=>∃ s,e=.returned (.tuple #[.pointer (some ⟨s,0,none⟩),.int .i64 0]) ∧
  ∃ F' od,StoreAt w' base s d F' B (PS.mounted B D od)∧Keep F w w'∧Grow w F F':=by
 have hpb:=QD h1 h2;have hn:=hF.n;have hkA:=(Keep.refl [] w).alloc (.cells #[.pointer (some ⟨d,0,none⟩),.pointer none,.int .i64 0,.int .i64 0,.int .i64 0,.int .i64 0,.int .i64 0,.int .i64 0,.int .i64 0,.int .i64 0,.int .i64 0,.int .i64 0,.int .i64 0,.int .i64 0,.int .i64 0,.int .i64 0,.int .i64 0,.int .i64 0,.slice none 0 0,.slice none 0 0,.slice none 0 0,.int .i64 0,.pointer none,.pointer none,.int .i64 0,.int .i64 0,.int .i64 0,.int .i64 0,.int .i64 0,.int .i64 0,.int .i64 0,.int .i64 0,.int .i64 0,.int .i64 0,.int .i64 0,.int .i64 0,.int .i64 0,.int .i64 0,.int .i64 0] 311);have hb0:=Blk.new w 311 #[.pointer (some ⟨d,0,none⟩),.pointer none,.int .i64 0,.int .i64 0,.int .i64 0,.int .i64 0,.int .i64 0,.int .i64 0,.int .i64 0,.int .i64 0,.int .i64 0,.int .i64 0,.int .i64 0,.int .i64 0,.int .i64 0,.int .i64 0,.int .i64 0,.int .i64 0,.slice none 0 0,.slice none 0 0,.slice none 0 0,.int .i64 0,.pointer none,.pointer none,.int .i64 0,.int .i64 0,.int .i64 0,.int .i64 0,.int .i64 0,.int .i64 0,.int .i64 0,.int .i64 0,.int .i64 0,.int .i64 0,.int .i64 0,.int .i64 0,.int .i64 0,.int .i64 0,.int .i64 0];have hFlt:=h.lt;have hfF:w.heap.size∉F:=fun hm=>by have:=hFlt _ hm;omega
 have hdA:=h.keep0 hkA;have hSu:=VAf _ w.heap.size d base B F D hb0 hdA hoff hfl hF h1 h2 hfF
 go_enter Tryz.func136,Tryz.ntmps136
 go_wp2_with (first
  | (refine hSu.mono ?_
     clear hSu;rintro e w1 ⟨rfl,g,hf1,hg1,hgl,hk1⟩;have hd1:=hdA.keep hk1 (fun x hx hm=>by simp at hm;subst hm;exact hfF hx)
     have hRg:=XAc w1 w.heap.size d g base B F D hf1 hd1 hoff hfl hF hg1)
  | (refine hRg.mono ?_
     clear hRg;rintro e w2 ⟨rfl,t,m,N,Ft,Fm,BA,bc,OA,oc,UA,uc,hf2,ht2,hm2,hTl,hMl,hBl,hOl,hoB,hoO,hk2⟩;have hlg:w.heap.size<w1.heap.size:=hf1.lt;have hmge:=hm2.ge;have htge:=ht2.ge;have hfm:w.heap.size∉Fm:=fun hm=>by have:=hmge _ hm;omega
     have hft:w.heap.size∉Ft:=fun hm=>by have:=htge _ hm;omega
     have hgf:g≠w.heap.size:=by simp at hgl;omega
     have hd2:=hd1.keep hk2 (fun x hx hm=>by simp at hm;subst hm;exact hfF hx);have hg2:=hg1.keep hk2 (by simpa using hgf);have hgm:g∉Fm:=fun hm=>by have:=hmge _ hm;have:=hg1.lt;omega
     have hdm:Apart F Fm:=fun x hx hm=>by have:=hmge _ hm;have:=hFlt x hx;omega
     have c18:w2.cell? ⟨w.heap.size,18,none⟩=some (.slice BA (pgs B) bc):=by simpa using hf2.cell 18
     have hP0:=XAF w2 w.heap.size d g m base w1.heap.size B F Fm D _ hf2 rfl rfl rfl hd2 hoff hfl hn hg2 false 0 rfl _ hm2 rfl rfl (fun k hk=>by simpa using hF.base k hk) BA bc (Rd.of_own hoB) (fun a ha hm=>by have:=hBl a ha;have:=hMl _ hm;omega) hfm hgm hdm)
  | (refine hP0.mono ?_
     clear hP0 c18;rintro e w3 ⟨rfl,hm3,hk3⟩;have hf3:=hf2.keep hk3 hfm;have hd3:=hd2.keep hk3 hdm;have hg3:=hg2.keep hk3 hgm
     have hoO3:=QB hoO hk3 (fun x hx hm=>by
      rcases OA with _ | a
      · simp[Value.ownBlock] at hx
      · simp[Value.ownBlock] at hx;subst hx;have:=hOl a rfl;have:=hMl _ hm;omega)
     have c19:w3.cell? ⟨w.heap.size,19,none⟩=some (.slice OA (pgs B) oc):=by simpa using hf3.cell 19
     have hP1:=XAF w3 w.heap.size d g m base w1.heap.size B F Fm D _ hf3 rfl rfl rfl hd3 hoff hfl hn hg3 true (-1) rfl _ hm3 rfl rfl (fun k hk=>by simpa using hF.over k hk) OA oc (Rd.of_own hoO3) (fun a ha hm=>by have:=hOl a ha;have:=hMl _ hm;omega) hfm hgm hdm)
  | (refine hP1.mono ?_
     clear hP1 c19;rintro e w4 ⟨rfl,hm4,hk4⟩;have hf4:=hf3.keep hk4 hfm;have hd4:=hd3.keep hk4 hdm;have hg4:=hg3.keep hk4 hgm
     have hFw:=VAN w4 w.heap.size d g t m w1.heap.size base B F Fm D BA OA bc oc UA uc _ hf4 hm4 hd4 hg4 hoff hn hfl (hF.log _ (Nat.le_refl _) (by omega)) hfm)
  | (refine hFw.mono ?_
     clear hFw;rintro e w5 ⟨rfl,od,hm5,hf5,hk5⟩;have hKt:Keep (w.heap.size :: Fm) w2 w5:=((hk3.trans hk4 (fun x hx=>.inl hx)).sub (fun x hx=>List.mem_cons_of_mem _ hx)).trans hk5 (fun x hx=>.inl hx);have hd5:=hd4.keep hk5 (fun x hx hm=>by rcases List.mem_cons.1 hm with rfl | hm;exact hfF hx;exact hdm x hx hm);have hg5:=hg4.keep hk5 (by simpa using⟨hgf,hgm⟩)
     have ht5:=ht2.keep hKt (fun x hx hm=>by
      rcases List.mem_cons.1 hm with rfl | hm
      · exact hft hx
      · have:=hTl x hx;have:=hMl x hm;omega)
     have hs2:=hk2.size;have hs5:=hKt.size
     have hBg:=JAX w5 w.heap.size d g t m w1.heap.size w1.heap.size base B F Fm Ft D BA OA bc oc UA uc od hf5 hm5 ht5 hd5 hg5 hoff hfuse ha hn h1 h2 (by omega) hfm hft hfF (fun x hx hm=>by have:=htge x hx;have:=hFlt x hm;omega) (fun hm=>by have:=hFlt g hm;simp at hgl;omega))
  | (refine hBg.mono ?_
     clear hBg;rintro e w6 ⟨p,Fw,F',rfl,hf6,hd6,hw6,hk6,hgr6,hap6⟩))
 have hfE:=hf6.keep0 (Keep.refl [] w6).drew;have hlf:w.heap.size<w5.heap.size:=hf5.lt;have hFm2:=hm2.lt;have hFt2:=ht2.lt;have hFw6:=hw6.lt;have hFwg:=hw6.ge;have hF6:=hd6.lt;have hF6g:∀ x∈F',x∈F∨w5.heap.size≤x:=hgr6
 have hFm6:∀ x∈Fm,x∉w.heap.size :: F:=fun x hx hm=>by
  rcases List.mem_cons.1 hm with rfl | hm
  · exact hfm hx
  · exact hdm x hm hx
 have hFt6:∀ x∈Ft,x∉w.heap.size :: F:=fun x hx hm=>by
  rcases List.mem_cons.1 hm with rfl | hm
  · exact hft hx
  · have:=htge x hx;have:=hFlt x hm;omega
 have hgd6:g∉w.heap.size :: F:=fun hm=>by
  rcases List.mem_cons.1 hm with e | hm
  · exact hgf e
  · have:=hFlt g hm;simp at hgl;omega
 have hK:Keep (w.heap.size :: (Fm++F)) w2 w6:=(hKt.sub (fun x hx=>by simp at hx;simp;rcases hx with hx | hx <;> simp[hx])).trans (hk6.sub (fun x hx=>by simp at hx;simp;rcases hx with hx | hx <;> simp[hx])) (fun x hx=>.inl hx)
 have hoX:∀ {V:Option Addr} {vc:Nat},w2.ownsRow w1.heap.size 3 1 (.slice V (pgs B) vc) (pgs B) (XJ (List.replicate (pgs B) 0))→(∀ a,V=some a→a.block<N)→w6.ownsRow w1.heap.size 3 1 (.slice V (pgs B) vc) (pgs B) (XJ (List.replicate (pgs B) 0)):=fun {V vc} ho hl=>QB ho hK (fun x hx hm=>by
  have q:=(own_mem ho (g:=x) (by rw[hx];simp)).1;have q2:=own_blk_ne ho hf2 (by decide);rcases V with _ | a
  · simp[Value.ownBlock] at hx
  · simp[Value.ownBlock] at hx
    subst hx;have q3:=hl a rfl;simp only[List.mem_cons,List.mem_append] at hm;rcases hm with hm | hm | hm
    · exact q2 (by simp[Value.ownBlock,hm])
    · have:=hMl _ hm;omega
    · have:=hFlt _ hm;omega)
 have hrB:=(Rd.of_own (hoX hoB hBl)).drew;have hrO:=(Rd.of_own (hoX hoO hOl)).drew;have hm6:=(hm5.keep hk6 hFm6).keep0 (Keep.refl [] w6).drew;have ht6:=(ht5.keep hk6 hFt6).keep0 (Keep.refl [] w6).drew;have hg6:=(hg5.keep hk6 hgd6).keep0 (Keep.refl [] w6).drew;replace hd6:=hd6.keep0 (Keep.refl [] w6).drew;replace hw6:=hw6.keep0 (Keep.refl [] w6).drew
 have hkF:Keep F w w6.drew:=((((hkA.trans0 ((Keep.refl [] _))).zero.trans hk1 (fun x hx=>.inr (by simp at hx;omega))).trans hk2 (fun x hx=>.inr (by simp at hx;omega))).trans hKt (fun x hx=>.inr (by
  rcases List.mem_cons.1 hx with rfl | hx
  · omega
  · have:=hmge x hx;omega))).trans hk6 (fun x hx=>by
  rcases List.mem_cons.1 hx with rfl | hx
  · exact .inr (by omega)
  · exact .inl hx) |>.trans0 (Keep.refl [] w6).drew
 clear hf1 hf2 hf3 hf4 hf5 hd1 hd2 hd3 hd4 hd5 hg2 hg3 hg4 hg5 hm2 hm3 hm4 hm5 ht2 ht5 hk1 hk2 hk3 hk4 hk5 hK hoX hoB hoO hoO3;refine ZT (fun X=>X.cell? ⟨w.heap.size,1,none⟩=some (.pointer (some ⟨g,0,none⟩))∧X.cell? ⟨w.heap.size,7,none⟩=some (.int .i64 1)∧X.cell? ⟨w.heap.size,8,none⟩=some (.int .i64 1)∧X.cell? ⟨w.heap.size,9,none⟩=some (.int .i64 1)∧X.cell? ⟨w.heap.size,10,none⟩=some (.int .i64 0)∧X.cell? ⟨w.heap.size,11,none⟩=some (.int .i64 0)∧X.cell? ⟨w.heap.size,12,none⟩=some (.int .i64 0)∧X.cell? ⟨w.heap.size,13,none⟩=some (.int .i64 0)∧X.cell? ⟨w.heap.size,14,none⟩=some (.int .i64 0)∧X.cell? ⟨w.heap.size,15,none⟩=some (.int .i64 1)∧X.cell? ⟨w.heap.size,16,none⟩=some (.int .i64 0)∧X.cell? ⟨w.heap.size,17,none⟩=some (.int .i64 1)∧X.cell? ⟨w.heap.size,18,none⟩=some (.slice BA (pgs B) bc)∧X.cell? ⟨w.heap.size,19,none⟩=some (.slice OA (pgs B) oc)∧X.cell? ⟨w.heap.size,20,none⟩=some (.slice (some ⟨UA,0,none⟩) 8 uc)∧X.cell? ⟨w.heap.size,21,none⟩=some (.int .i64 0)∧X.cell? ⟨w.heap.size,22,none⟩=some (.pointer (some ⟨t,0,none⟩))∧X.cell? ⟨w.heap.size,23,none⟩=some (.pointer (some ⟨m,0,none⟩))∧X.cell? ⟨w.heap.size,24,none⟩=some (.int .i64 1)∧X.cell? ⟨w.heap.size,25,none⟩=some (.int .i64 1)∧X.cell? ⟨w.heap.size,26,none⟩=some (.int .i64 0)∧X.cell? ⟨w.heap.size,27,none⟩=some (.int .i64 0)∧X.cell? ⟨w.heap.size,28,none⟩=some (.int .i64 0)∧X.cell? ⟨w.heap.size,29,none⟩=some (.int .i64 2)∧X.cell? ⟨w.heap.size,30,none⟩=some (.int .i64 1)∧X.cell? ⟨w.heap.size,31,none⟩=some (.int .i64 0)∧X.cell? ⟨w.heap.size,32,none⟩=some (.int .i64 0)∧X.cell? ⟨w.heap.size,33,none⟩=some (.int .i64 0)) 26 [[0,1,2,3,4,5,6,7,8,9,10,11,12,13,14,15,16,17,18,19,20,21,22,23,24,25]] ⟨by simpa using hfE.cell 1,by simpa using hfE.cell 7,by simpa using hfE.cell 8,by simpa using hfE.cell 9,by simpa using hfE.cell 10,by simpa using hfE.cell 11,by simpa using hfE.cell 12,by simpa using hfE.cell 13,by simpa using hfE.cell 14,by simpa using hfE.cell 15,by simpa using hfE.cell 16,by simpa using hfE.cell 17,by simpa using hfE.cell 18,by simpa using hfE.cell 19,by simpa using hfE.cell 20,by simpa using hfE.cell 21,by simpa using hfE.cell 22,by simpa using hfE.cell 23,by simpa using hfE.cell 24,by simpa using hfE.cell 25,by simpa using hfE.cell 26,by simpa using hfE.cell 27,by simpa using hfE.cell 28,by simpa using hfE.cell 29,by simpa using hfE.cell 30,by simpa using hfE.cell 31,by simpa using hfE.cell 32,by simpa using hfE.cell 33⟩ ?_;simp only[PI]
 iterate 26 (refine ZH ?_;simp only[Act.put,PU])
 refine YB ?_;have hF7:=hd6.lt;have hFw7:=hw6.lt;have hFm7:=hm6.lt;have hFt7:=ht6.lt;have hg7:=hg6.lt;have h57:w5.heap.size≤w6.drew.heap.size:=hk6.size;generalize w6.drew=w7 at *
 have hMk:Calls Tryz.prog 105 #[.pointer (some ⟨d,0,none⟩),.pointer (some ⟨t,0,none⟩),.pointer (some ⟨m,0,none⟩),.pointer (some ⟨p,0,none⟩),.pointer (some ⟨g,0,none⟩),.int .i64 0,.agg #[.int .i64 1,.int .i64 1,.int .i64 1,.int .i64 0,.int .i64 0,.int .i64 0,.int .i64 0,.int .i64 0,.int .i64 1,.int .i64 0,.int .i64 1,.slice BA (pgs B) bc,.slice OA (pgs B) oc,.slice (some ⟨UA,0,none⟩) 8 uc],.agg #[.int .i64 1,.int .i64 1,.int .i64 0,.int .i64 0,.int .i64 0,.int .i64 2,.int .i64 1,.int .i64 0,.int .i64 0,.int .i64 0]] w7 fun e w'=>∃ s L0 L1,e=.returned (.pointer (some ⟨s,0,none⟩))∧w7.heap.size≤s ∧
  Blk w' s 108 #[.pointer (some ⟨d,0,none⟩),.pointer (some ⟨g,0,none⟩),.pointer (some ⟨t,0,none⟩),.pointer (some ⟨m,0,none⟩),.pointer (some ⟨p,0,none⟩),.int .i64 1,.int .i64 1,.int .i64 0,.int .i64 0,.int .i64 0,.int .i64 2,.int .i64 1,.int .i64 0,.int .i64 0,.int .i64 0,.int .i64 0,L0,L1] ∧
  w'.ownsRow w7.heap.size 3 1 L0 (pgs B) (XJ (List.replicate (pgs B) 0))∧w'.ownsRow w7.heap.size 3 1 L1 (pgs B) (XJ (List.replicate (pgs B) 0))∧Keep [] w7 w':=
  YBL w7 d t m p g 0 (pgs B) ⟨1,1,1,0,0,0,⟨0,0,1,0,1⟩⟩ BA bc (List.replicate (pgs B) 0) OA oc (List.replicate (pgs B) 0) (some ⟨UA,0,none⟩) 8 uc hrB hrO (by omega) ⟨1,1,0,0,0,2,1⟩
 clear hrB hrO
 go_wp2_with (refine hMk.mono ?_;clear hMk;rintro e w8 ⟨s,L0,L1,rfl,hs8,hb8,hl0,hl1,hk8⟩)
 go_ret2;have hgl':w.heap.size<g:=by simp at hgl;omega
 have hg1':=hg1.lt;have z8:=hk8.size
 have hL:∀ x∈L0.ownBlock.toList++L1.ownBlock.toList,w7.heap.size≤x∧x≠s:=fun x hx=>by
  rcases List.mem_append.1 hx with hx | hx
  · exact⟨(own_mem hl0 hx).1,fun e=>by subst e;exact own_blk_ne hl0 hb8 (by decide) (by simpa using hx)⟩
  · exact⟨(own_mem hl1 hx).1,fun e=>by subst e;exact own_blk_ne hl1 hb8 (by decide) (by simpa using hx)⟩
 have hD:∀ x∈F',x<w.heap.size∨w5.heap.size≤x:=fun x hx=>(hF6g x hx).imp (hFlt x) id
 have hlog:LogIs w8 base d g t p F' Ft Fw B (XBL B D) us0 (List.replicate 8 0) ⟨⟨0,0,1,0,2⟩,[],[]⟩:=
  ⟨hd6.keep0 hk8,hg6.keep0 hk8,(ht6.keep0 hk8).rebase (by omega),(hw6.keep0 hk8).rebase (by omega),
    fun x hx hy=>by(have:=hD x hx;have:=htge x hy;have:=hFt2 x hy;omega),fun x hx hy=>hap6 x hy hx,fun x hx hy=>by(have:=hFt2 x hx;have:=hFwg x hy;omega),fun hy=>by(have:=hD g hy;omega),fun hy=>by(have:=htge g hy;omega),fun hy=>by(have:=hFwg g hy;omega),
    by simp[PPos.Ok],hoff,hfuse,hn,by omega⟩
 have hst:StoreIs w8 base s d g t p m F' Ft Fw Fm L0 L1 B (PS.mounted B D od):=by
  refine⟨hb8,hlog,(hm6.keep0 hk8).rebase (by omega),by simp[PS.mounted],ZC hl0 (by omega),ZC hl1 (by omega),by omega,by omega,?_,?_,?_⟩
  · intro x hx hy
    have h1:=hFm2 x hx;have h2:=hmge x hx;simp only[List.mem_cons,List.mem_append] at hy;rcases hy with rfl | hy | hy | hy
    · omega
    · have:=hD x hy;omega
    · have:=hTl x hy;have:=hMl x hx;omega
    · have:=hFwg x hy;omega
  · intro hy
    simp only[List.mem_cons,List.mem_append] at hy;rcases hy with hy | hy | hy | hy | hy
    · omega
    · have:=hF7 s hy;omega
    · have:=hFt7 s hy;omega
    · have:=hFw7 s hy;omega
    · have:=hFm7 s hy;omega
  · intro x hx hy
    obtain⟨h1,h2⟩:=hL x hx;simp only[List.mem_cons,List.mem_append] at hy;rcases hy with hy | hy | hy | hy | hy | hy
    · exact h2 hy
    · omega
    · have:=hF7 x hy;omega
    · have:=hFt7 x hy;omega
    · have:=hFw7 x hy;omega
    · have:=hFm7 x hy;omega
 refine⟨s,rfl,_,od,⟨g,t,p,m,F',Ft,Fw,Fm,L0,L1,hst,rfl⟩,hkF.trans0 hk8,?_⟩;intro x hx;simp only[QL,List.mem_cons,List.mem_append] at hx;have hL':=fun h=>hL x (List.mem_append.2 h);rcases hx with rfl | rfl | hx | hx | hx | hx | hx
 · exact .inr (by omega)
 · exact .inr (by omega)
 · exact(hF6g x hx).imp id (fun h=>by omega)
 · exact .inr (by have:=htge x hx;omega)
 · exact .inr (by have:=hFwg x hx;omega)
 · exact .inr (by have:=hmge x hx;omega)
 · exact .inr (by have:=(hL' hx).1;omega)
end
section
open Go.RowKit Go.Shelf
attribute [local go_sem] Oper.semAt_some
def QAa (S:PS):Nat:=(XM S.I.bl S.I.ol S.I.bl.length).length
def QBU (S:PS):List Value:=[.int .i64 S.st.mode,.int .i64 S.st.view,.int .i64 S.st.epoch,.int .i64 S.st.seq,.int .i64 S.st.done,.int .i64 S.st.mount,.int .i64 S.st.gen,.int .i64 (YD S.us:Nat),.int .i64 (QAa S:Nat),.int .i64 (QJ S.I.ol:Nat)]
theorem YAC (bl ol:List Int) (k:Nat):(XM bl ol k).length≤2*k:=by
 induction k with
 | zero=>simp[XM]
 | succ k ih=>
   rw[XM,List.length_append,List.length_append]
   split <;> split <;> simp <;> omega
theorem JR {w:World} {g:Nat} {t:TypeId} {x0 x1 x2 x3 x4 x5 x6 x7 x8 x9:Value} (h:Blk w g t #[x0,x1,x2,x3,x4,x5,x6,x7,x8,x9]) :
 w.cell? ⟨g,0,none⟩=some x0∧w.cell? ⟨g,1,none⟩=some x1∧w.cell? ⟨g,2,none⟩=some x2∧w.cell? ⟨g,3,none⟩=some x3∧w.cell? ⟨g,4,none⟩=some x4∧w.cell? ⟨g,5,none⟩=some x5∧w.cell? ⟨g,6,none⟩=some x6∧w.cell? ⟨g,7,none⟩=some x7∧w.cell? ⟨g,8,none⟩=some x8∧w.cell? ⟨g,9,none⟩=some x9:=
 ⟨by simpa using h.cell 0,by simpa using h.cell 1,by simpa using h.cell 2,by simpa using h.cell 3,by simpa using h.cell 4,by simpa using h.cell 5,by simpa using h.cell 6,by simpa using h.cell 7,by simpa using h.cell 8,by simpa using h.cell 9⟩
def wrN (n:Nat):Int:=IntKind.i64.wrap (n:Nat)
theorem XBC (n:Nat):IntKind.i64.wrap (wrN n+1)=wrN (n+1):=by
 unfold wrN;simp only[IntKind.wrap_i64];omega
theorem KAh (n:Nat) (h:n≤1000000):wrN n=(n:Nat):=by
 unfold wrN;rw[IntKind.wrap_i64];omega
structure KSta (w:World) (cs:Array Value) (pre:List PRnd) (W:World):Prop where
 cnt:Blk W (w.heap.size+1) 72 (cs.setIfInBounds 8 (.int .i64 (wrN pre.length)))
 res:Blk W w.heap.size 72 #[.int .i64 0,.int .i64 0,.int .i64 0,.int .i64 0,.int .i64 0,.int .i64 0,.int .i64 0,.int .i64 0,.int .i64 0,.int .i64 0]
 keep:Keep [] w W
theorem KSta.kept {w A B:World} {cs:Array Value} {pre:List PRnd} (h:KSta w cs pre A) (hk:Keep [] A B):KSta w cs pre B:=⟨h.cnt.keep0 hk,h.res.keep0 hk,h.keep.trans0 hk⟩
theorem KSta.turned {w W:World} {cs:Array Value} {k:Nat} {pre:List PRnd} {o o':Obj} (h:KSta w cs pre W) (hl:w.heap.size≤k) (hg:W.heap[k]? = some o) (ho:o.isCells=false):KSta w cs pre (W.putObj k o'):=
 ⟨ZJ o' h.cnt hg ho,ZJ o' h.res hg ho,h.keep.putObj hl o'⟩
theorem KAW (w:World) (base s d g t p m:Nat) (Ft Fm:List Nat) (L0 L1:Value) (S:PS) (hblk:Blk w s 108 #[.pointer (some ⟨d,0,none⟩),.pointer (some ⟨g,0,none⟩),.pointer (some ⟨t,0,none⟩),.pointer (some ⟨m,0,none⟩),.pointer (some ⟨p,0,none⟩),
 .int .i64 S.st.mode,.int .i64 S.st.view,.int .i64 S.st.epoch,.int .i64 S.st.seq,.int .i64 S.st.done,.int .i64 S.st.mount,.int .i64 S.st.gen,.int .i64 0,.int .i64 0,.int .i64 0,.int .i64 S.slot,L0,L1])
 (htab:TableAt w base t g Ft S.us S.lv) (hI:ImageAt w base m Fm S.I) :
 Calls Tryz.prog 85 #[.pointer (some ⟨s,0,none⟩)] w fun e w'=>e=.returned (.agg (QBU S).toArray)∧Keep [] w w':=by
 have hFr:=fun W (hk:Keep [] w W)=>YAT W base t g Ft S.us S.lv (htab.keep0 hk);have hPe:=fun W (hk:Keep [] w W)=>XAa W base m Fm S.I (hI.keep0 hk);unfold QBU;generalize hfc:YD S.us=fc at *;generalize hpc:QJ S.I.ol=pc at *;obtain⟨D,us,lv,W,I,⟨mode,view,epoch,seq,done,mount,gen⟩,slot,lie0,lie1⟩:=S;simp only at *;refine(callsIn_wide (n:=3)).1 ?_;refine callsIn_of_wp_marks Tryz.func85 rfl trivial ?_ rfl;simp only[Tryz.ntmps85,List.size_toArray,List.length_cons,List.length_nil,Nat.reduceAdd,Nat.reduceSub,Array.replicate_succ,Array.replicate_zero,List.push_toArray,List.append_toArray,List.nil_append,List.cons_append];obtain⟨w2,hw2⟩:∃ w2,w2=(w.alloc (.cells #[.int .i64 0,.int .i64 0,.int .i64 0,.int .i64 0,.int .i64 0,.int .i64 0,.int .i64 0,.int .i64 0,.int .i64 0,.int .i64 0] 72)).alloc (.cells #[.int .i64 mode,.int .i64 view,.int .i64 epoch,.int .i64 seq,.int .i64 done,.int .i64 mount,.int .i64 gen,.int .i64 0,.int .i64 0,.int .i64 0] 72):=⟨_,rfl⟩;have k2:Keep [] w w2:=by rw[hw2];exact((Keep.refl _ _).alloc _).alloc _
 have s2:w2.heap.size=w.heap.size+2:=by rw[hw2];simp
 have b2:Blk w2 w.heap.size 72 #[.int .i64 0,.int .i64 0,.int .i64 0,.int .i64 0,.int .i64 0,.int .i64 0,.int .i64 0,.int .i64 0,.int .i64 0,.int .i64 0]:=by rw[hw2];exact(Blk.new w _ _).keep0 ((Keep.refl _ _).alloc _)
 have b3:Blk w2 (w.heap.size+1) 72 #[.int .i64 mode,.int .i64 view,.int .i64 epoch,.int .i64 seq,.int .i64 done,.int .i64 mount,.int .i64 gen,.int .i64 0,.int .i64 0,.int .i64 0]:=by
  rw[hw2];have:=Blk.new (w.alloc (.cells #[.int .i64 0,.int .i64 0,.int .i64 0,.int .i64 0,.int .i64 0,.int .i64 0,.int .i64 0,.int .i64 0,.int .i64 0,.int .i64 0] 72)) 72 #[.int .i64 mode,.int .i64 view,.int .i64 epoch,.int .i64 seq,.int .i64 done,.int .i64 mount,.int .i64 gen,.int .i64 0,.int .i64 0,.int .i64 0];rw[show ∀ o,(w.alloc o).heap.size=w.heap.size+1 from fun o=>by simp] at this;exact this
 obtain⟨c0,c1,c2,c3,c4,c5,c6,c7,c8,c9,c10,c11,c12,c13,c14,c15,c16,c17⟩:=VC hblk;have hslt:=hblk.lt
 gi_wp2
 rw[← hw2];clear hw2;have hFr1:=hFr w2.drew k2.drew;obtain⟨f7,f9⟩:(∀ W,Keep [] w2 W→W.frozen? ⟨w.heap.size+1,7,none⟩=false)∧(∀ W,Keep [] w2 W→W.frozen? ⟨w.heap.size+1,9,none⟩=false):=⟨fun W hk=>(b3.keep0 hk).frozen 7,fun W hk=>(b3.keep0 hk).frozen 9⟩;refine KH (wpIn_wide.2 ?_);refine ZT (fun w'=>w'.cell? ⟨s,2,none⟩=some (.pointer (some ⟨t,0,none⟩))∧w'.cell? ⟨s,3,none⟩=some (.pointer (some ⟨m,0,none⟩))) 11 [[0,1,2,3,5,6,7,8],[4,10],[9]] ⟨(VC (hblk.keep0 k2.drew)).2.2.1,(VC (hblk.keep0 k2.drew)).2.2.2.1⟩ ?_;simp only[PI]
 iterate 8 (refine ZH ?_;simp only[Act.put,PU])
 refine XB (by rfl) (fun K hK=>?_)
 go_wp2_with (refine hFr1.mono ?_;clear hFr1;rintro e w3 ⟨rfl,hk3⟩)
 have k3:Keep [] w2 w3:=(Keep.refl _ _).drew.trans0 hk3;have hPe1:=hPe w3 (k2.trans0 k3);refine hK _ _ (⟨(VC (hblk.keep0 (k2.trans0 k3))).2.2.1,(VC (hblk.keep0 (k2.trans0 k3))).2.2.2.1⟩) ?_;clear hK K
 try simp only[Act.put,PU]
 iterate 1 (refine ZH ?_;simp only[Act.put,PU])
 refine XB (by rfl) (fun K hK=>?_)
 go_wp2_with (refine hPe1.mono ?_;clear hPe1;rintro e w4 ⟨rfl,hk4⟩)
 have k4:Keep [] w2 w4:=k3.trans0 hk4;refine hK _ _ (⟨(VC (hblk.keep0 (k2.trans0 k4))).2.2.1,(VC (hblk.keep0 (k2.trans0 k4))).2.2.2.1⟩) ?_;clear hK K
 try simp only[Act.put,PU]
 refine YB ?_;have q7:=f7 w4 k4;have q9:=f9 w4 k4;obtain⟨y0,y1,y2,y3,y4,y5,y6,y7,y8,y9⟩:=JR (b3.keep0 k4)
 go_wp2_with fail
 have hkz:Keep [w.heap.size+1] w4 ((w4.setCell ⟨w.heap.size+1,7,none⟩ (.int .i64 (fc:Nat))).setCell ⟨w.heap.size+1,9,none⟩ (.int .i64 (pc:Nat))):=((Keep.refl _ _).setCell (.inl (by simp)) _).setCell (.inl (by simp)) _;have b5:=((b3.keep0 k4).set 7 (.int .i64 (fc:Nat))).set 9 (.int .i64 (pc:Nat));have b5r:=(b2.keep0 k4).keep hkz (by simp);have k5:=(k2.trans0 k4).trans hkz (fun x hx=>.inr (by simp at hx;omega));generalize (w4.setCell ⟨w.heap.size+1,7,none⟩ (.int .i64 (fc:Nat))).setCell ⟨w.heap.size+1,9,none⟩ (.int .i64 (pc:Nat))=w5 at *;simp at b5;have s5:w.heap.size+2≤w5.heap.size:=by have:=b5.lt;omega
 clear q7 q9 y0 y1 y2 y3 y4 y5 y6 y7 y8 y9 k4 hk4 k3 hk3 b3 b2 f7 f9 k2 s2 c0 c1 c2 c3 c4 c5 c6 c7 c8 c9 c10 c11 c12 c13 c14 c15 c16 c17 hFr hPe hkz hfc hpc;have c3:=(VC (hblk.keep0 k5)).2.2.2.1
 gi_wp2_with (first
  | (refine⟨trivial,?_⟩;refine(YAt _ _ _ rfl).mono ?_;rintro e w' ⟨rfl,rfl⟩))
 obtain⟨w6,hw6⟩:∃ w6,w6=w5.alloc (.cells #[.pointer (some ⟨m,0,none⟩)] 46):=⟨_,rfl⟩;rw[← hw6];have k6:Keep [] w5 w6:=by rw[hw6];exact(Keep.refl _ _).alloc _
 have s6:w6.heap.size=w5.heap.size+1:=by rw[hw6];simp
 have bm:Boxed w6 w5.heap.size 46 (.pointer (some ⟨m,0,none⟩)):=by rw[hw6];exact Boxed.new w5 _ _
 have hlt:=hI.lt;have hseq:=XAj 2 w5.heap.size base m [w.heap.size+1] Fm I w6 (hI.keep0 (k5.trans0 k6)) bm (fun g hg hm=>by have:=hlt g hg;simp at hm;omega) (by simp;omega) (fun g hg=>by simp at hg;omega);have h0:KSta w #[.int .i64 mode,.int .i64 view,.int .i64 epoch,.int .i64 seq,.int .i64 done,.int .i64 mount,.int .i64 gen,.int .i64 (fc:Nat),.int .i64 0,.int .i64 (pc:Nat)] [] w6:=⟨b5.keep0 k6,b5r.keep0 k6,k5.trans0 k6⟩
 refine ZAN (n:=3) (gf:=123) (lb:=#[.pointer (some ⟨w5.heap.size,0,none⟩)]) rfl (enters_of Tryz.func123 (by kernel_rfl) rfl)
  hseq
  (fun A B C h k=>h.trans k)
  (fun W o o' hg' ho=>KeepR.putObj (by omega) hg' ho)
  (fun _=>rfl) (KSta w #[.int .i64 mode,.int .i64 view,.int .i64 epoch,.int .i64 seq,.int .i64 done,.int .i64 mount,.int .i64 gen,.int .i64 (fc:Nat),.int .i64 0,.int .i64 (pc:Nat)]) (fun s A B h hk=>h.kept hk) (fun s W l o o' h hl hg' ho=>h.turned (by omega) hg' ho)
  (fun pre x W l o o' h hl hg' ho=>trivial) h0
  (fun y=>{ tmps:=#[.pointer (some ⟨s,0,none⟩),undef,.pointer (some ⟨w.heap.size,0,none⟩),.pointer (some ⟨w.heap.size+1,0,none⟩),.pointer (some ⟨s,0,none⟩),.bool false,undef,.pointer (some ⟨s,0,none⟩),.pointer (some ⟨s,0,none⟩),.pointer (some ⟨s,5,none⟩),.agg #[.int .i64 mode,.int .i64 view,.int .i64 epoch,.int .i64 seq,.int .i64 done,.int .i64 mount,.int .i64 gen,.int .i64 0,.int .i64 0,.int .i64 0],.pointer (some ⟨s,0,none⟩),.pointer (some ⟨s,0,none⟩),.pointer (some ⟨s,2,none⟩),.pointer (some ⟨t,0,none⟩),.int .i64 (fc:Nat),.pointer (some ⟨s,0,none⟩),.pointer (some ⟨s,0,none⟩),.pointer (some ⟨s,3,none⟩),.pointer (some ⟨m,0,none⟩),.int .i64 (pc:Nat),.pointer (some ⟨w.heap.size+1,7,none⟩),.pointer (some ⟨w.heap.size+1,9,none⟩),.pointer (some ⟨s,0,none⟩),.pointer (some ⟨s,0,none⟩),.pointer (some ⟨s,3,none⟩),.pointer (some ⟨m,0,none⟩),.func (.func 123) #[] #[.pointer (some ⟨w5.heap.size,0,none⟩)],.int .i64 (y.1:Nat),.int .i64 y.2,undef,undef,undef,undef,undef],defers:=[] }) ?assign ?body ?done
 case assign=>
  rintro l ⟨k,z⟩ W K hK;dsimp only[ZP] at hK ⊢
  gi_wp2
  simpa using hK
 case body=>
  rintro l pre ⟨k,z⟩ W hI' -;dsimp only;obtain⟨q,hq⟩:∃ q,q=wrN pre.length:=⟨_,rfl⟩;have hw:=XBC pre.length;obtain⟨r,hr⟩:∃ r,r=wrN (pre.length+1):=⟨_,rfl⟩;rw[← hq,← hr] at hw;have hbx:=hI'.cnt;rw[← hq] at hbx;have hc8:W.cell? ⟨w.heap.size+1,8,none⟩=some (.int .i64 q):=by simpa using hbx.cell 8
  have hf8:=hbx.frozen 8;have hltB:=hbx.lt;have HI:=JB hI';have HR:=JB hr;clear h0 bm k6 hseq hI' hq hr hw6
  gi_wp2
  have hI':=XA HI;have hk3:Keep [w.heap.size+1] W (W.setCell ⟨w.heap.size+1,8,none⟩ (.int .i64 r)):=(Keep.refl _ _).setCell (p:=⟨w.heap.size+1,8,none⟩) (.inl (by simp)) _
  have hfc:KeepsFrom w6.heap.size W (W.setCell ⟨w.heap.size+1,8,none⟩ (.int .i64 r)):=hk3.fromCells (fun g hg o ho=>by
   rw[List.mem_singleton.1 hg] at ho;rw[show W.heap[_]? = _ from hbx] at ho;cases ho;rfl) _
  have hfc2:KeepsFrom (w6.heap.size+2) W (W.setCell ⟨w.heap.size+1,8,none⟩ (.int .i64 r)):=hk3.fromCells (fun g hg o ho=>by
   rw[List.mem_singleton.1 hg] at ho;rw[show W.heap[_]? = _ from hbx] at ho;cases ho;rfl) _
  refine⟨hfc,⟨KeepC.ofKeep hk3 (fun x hx=>hx),hfc2⟩,⟨?_,hI'.res.keep hk3 (by simp),hI'.keep.trans hk3 (fun x hx=>.inr (by simp at hx;omega))⟩⟩;have:=hbx.set 8 (.int .i64 r);rw[List.length_append,List.length_singleton,← XA HR];simpa using this
 case done=>
  intro D' xs W hD' hS hI' hdef;have hbx:=hI'.cnt;rw[hS,KAh _ (by have:=YAC I.bl I.ol I.bl.length;obtain⟨p1,p2,F1,F2,hi⟩:=hI;obtain⟨_,_,hb⟩:=hi.b;have:=hb.few;omega)] at hbx;obtain⟨q,hq⟩:∃ q,q=(XM I.bl I.ol I.bl.length).length:=⟨_,rfl⟩;rw[← hq] at hbx;have HQ:=JB hq;clear hq;obtain⟨y0,y1,y2,y3,y4,y5,y6,y7,y8,y9⟩:=JR (by simpa using hbx);have hbr:=hI'.res;obtain⟨z0,z1,z2,z3,z4,z5,z6,z7,z8,z9⟩:=JR hbr;have q0:=hbr.frozen 0;have q1:=hbr.frozen 1;have q2:=hbr.frozen 2;have q3:=hbr.frozen 3;have q4:=hbr.frozen 4;have q5:=hbr.frozen 5;have q6:=hbr.frozen 6;have q7:=hbr.frozen 7;have q8:=hbr.frozen 8;have q9:=hbr.frozen 9;have HI:=JB hI';clear h0 bm k6 hseq hI' hw6
  gi_wp2
  have hI':=XA HI;have hz:=((((((((((hbr.set 0 (.int .i64 mode)).set 1 (.int .i64 view)).set 2 (.int .i64 epoch)).set 3 (.int .i64 seq)).set 4 (.int .i64 done)).set 5 (.int .i64 mount)).set 6 (.int .i64 gen)).set 7 (.int .i64 (fc:Nat))).set 8 (.int .i64 (q:Nat))).set 9 (.int .i64 (pc:Nat)));have hKs:=(((((((((((Keep.refl [w.heap.size] W).setCell (p:=⟨w.heap.size,0,none⟩) (.inl (by simp)) (.int .i64 mode)).setCell (p:=⟨w.heap.size,1,none⟩) (.inl (by simp)) (.int .i64 view)).setCell (p:=⟨w.heap.size,2,none⟩) (.inl (by simp)) (.int .i64 epoch)).setCell (p:=⟨w.heap.size,3,none⟩) (.inl (by simp)) (.int .i64 seq)).setCell (p:=⟨w.heap.size,4,none⟩) (.inl (by simp)) (.int .i64 done)).setCell (p:=⟨w.heap.size,5,none⟩) (.inl (by simp)) (.int .i64 mount)).setCell (p:=⟨w.heap.size,6,none⟩) (.inl (by simp)) (.int .i64 gen)).setCell (p:=⟨w.heap.size,7,none⟩) (.inl (by simp)) (.int .i64 (fc:Nat))).setCell (p:=⟨w.heap.size,8,none⟩) (.inl (by simp)) (.int .i64 (q:Nat))).setCell (p:=⟨w.heap.size,9,none⟩) (.inl (by simp)) (.int .i64 (pc:Nat)));simp only[List.setIfInBounds_toArray,List.set_cons_zero,List.set_cons_succ] at hz;have hdef2:((((((((((W.setCell ⟨w.heap.size,0,none⟩ (.int .i64 mode)).setCell ⟨w.heap.size,1,none⟩ (.int .i64 view)).setCell ⟨w.heap.size,2,none⟩ (.int .i64 epoch)).setCell ⟨w.heap.size,3,none⟩ (.int .i64 seq)).setCell ⟨w.heap.size,4,none⟩ (.int .i64 done)).setCell ⟨w.heap.size,5,none⟩ (.int .i64 mount)).setCell ⟨w.heap.size,6,none⟩ (.int .i64 gen)).setCell ⟨w.heap.size,7,none⟩ (.int .i64 (fc:Nat))).setCell ⟨w.heap.size,8,none⟩ (.int .i64 (q:Nat))).setCell ⟨w.heap.size,9,none⟩ (.int .i64 (pc:Nat))).heap[D']? = some (.deferred (some [])):=(hKs.block D' (Array.getElem?_eq_some_iff.1 hdef).1 (by simp;omega)).trans hdef;have hzz:=ZJ (.deferred none) hz hdef2 rfl;obtain⟨e0,e1,e2,e3,e4,e5,e6,e7,e8,e9⟩:=JR hzz;have hkw:=(hI'.keep.trans hKs (fun x hx=>.inr (by simp at hx;omega))).putObj (g:=D') (by omega) (.deferred none);refine⟨by simp,.inl ⟨_,_,rfl,run_takeDeferred hdef2,?_⟩⟩;refine⟨.agg #[.int .i64 mode,.int .i64 view,.int .i64 epoch,.int .i64 seq,.int .i64 done,.int .i64 mount,.int .i64 gen,.int .i64 (fc:Nat),.int .i64 (q:Nat),.int .i64 (pc:Nat)],?_,by rw[XA HQ];rfl,hkw⟩;simp[results,Tryz.results85,go_sem,e0,e1,e2,e3,e4,e5,e6,e7,e8,e9]
theorem ZAV (w:World) (base s d g t p m:Nat) (Fd Ft Fw Fm:List Nat) (L0 L1:Value) (B:Nat) (S:PS) (h:StoreIs w base s d g t p m Fd Ft Fw Fm L0 L1 B S) :
 Calls Tryz.prog 85 #[.pointer (some ⟨s,0,none⟩)] w fun e w'=>e=.returned (.agg (QBU S).toArray)∧Keep [] w w':=
 KAW w base s d g t p m Ft Fm L0 L1 S h.blk h.log.tab h.img
end
section
open Go.RowKit
section
variable (w:World) (base x:Nat) (L:Value) (F:List Nat) (next:Nat) (sl:List PSlot) (h:WinIs w base x L F next sl)
include h
theorem noneW_is:Calls Tryz.prog 232 #[.pointer (some ⟨x,0,none⟩)] w fun e w'=>e=.returned (.bool false)∧w=w':=by
 obtain⟨g,c,rfl,hc⟩:=h.form;obtain⟨c0,c1⟩:=h.cells;have hp:=h.pos;have hn:((sl.length:Nat):Int)≠0:=by omega
 have hnb:(((sl.length:Nat):Int) == 0)=false:=by simpa using hn
 generalize sl.length=m at *;clear h
 go_enter Tryz.func232,Tryz.ntmps232
 go_wp2
 go_ret;exact⟨rfl,rfl⟩
theorem XAe (g c:Nat) (hL:L=.slice (some ⟨g,0,none⟩) sl.length c) (n:Nat) (hn:n≤4000000000) :
 Calls Tryz.prog 233 #[.pointer (some ⟨x,0,none⟩),.int .i64 (n:Nat)] w fun e w'=>e=.returned (.pointer (some ⟨g,n % sl.length*6,none⟩))∧Keep [] w w':=by
 subst hL;obtain⟨c0,c1⟩:=h.cells;have hp:=h.pos;have hf:=h.few;have hlt:n % sl.length<sl.length:=Nat.mod_lt _ hp;generalize sl.length=m at *;clear h;obtain⟨i,hi⟩:∃ i,i=n % m:=⟨_,rfl⟩
 have hw:IntKind.i64.wrap ((n:Int).tmod (m:Nat))=(i:Nat):=by
  rw[Int.tmod_eq_emod_of_nonneg (by omega),IntKind.wrap_i64,hi];have:((n:Int) % (m:Nat))=((n % m:Nat):Int):=by simp
  omega
 have hw2:(n:Int).tmod (m:Nat)=(i:Nat):=by
  rw[Int.tmod_eq_emod_of_nonneg (by omega),hi];simp
 rw[← hi] at hlt ⊢;have hltI:((i:Nat):Int)<(m:Nat):=by omega
 have hm0:m≠0:=by omega
 clear hi
 go_enter Tryz.func233,Tryz.ntmps233
 go_wp2_with fail
 refine ZT (fun w'=>w'.cell? ⟨x,0,none⟩=some (.slice (some ⟨g,0,none⟩) m c)) 11 [[0,1,2,3,4,5,6,7,8,9,10]] c0 ?_;simp only[PI]
 iterate 11 (refine ZH ?_;simp only[Act.put,PU])
 refine YB ?_
 go_wp2_with fail
 go_ret;exact⟨by simp,(Keep.refl _ _).drew⟩
theorem WinIs.slot (g c:Nat) (hL:L=.slice (some ⟨g,0,none⟩) sl.length c) (i:Nat) (hi:i<sl.length) :
 w.cell? ⟨g,i*6,none⟩=some (.int .i64 sl[i].o.k)∧w.cell? ⟨g,i*6+1,none⟩=some (.int .i64 sl[i].o.b)∧w.cell? ⟨g,i*6+2,none⟩=some (.int .i64 sl[i].o.c)∧w.cell? ⟨g,i*6+3,none⟩=some (.int .i64 sl[i].o.e)∧w.cell? ⟨g,i*6+4,none⟩=some sl[i].v∧w.cell? ⟨g,i*6+5,none⟩=some (.bool sl[i].is):=by
 subst hL;have hr:=h.row;refine⟨?_,?_,?_,?_,?_,?_⟩
 · exact KN hr (by rw[show i*6=i*6+0 from rfl,VK YF sl i 0 hi (by omega)];rfl)
 · exact KN hr (by rw[VK YF sl i 1 hi (by omega)];rfl)
 · exact KN hr (by rw[VK YF sl i 2 hi (by omega)];rfl)
 · exact KN hr (by rw[VK YF sl i 3 hi (by omega)];rfl)
 · exact KN hr (by rw[VK YF sl i 4 hi (by omega)];rfl)
 · exact KN hr (by rw[VK YF sl i 5 hi (by omega)];rfl)
theorem PeekW_is:Calls Tryz.prog 234 #[.pointer (some ⟨x,0,none⟩)] w fun e w'=>∃ q,sl.getD (next % sl.length) PSlot.none_=q∧e=.returned (.tuple #[.agg #[.int .i64 q.o.k,.int .i64 q.o.b,.int .i64 q.o.c,.int .i64 q.o.e,q.v],.bool q.is])∧(∃ A c,q.v=.slice A q.o.d.length c)∧Keep [] w w':=by
 obtain⟨g,c,hL,hc⟩:=h.form;have hN:=fun W (hk:Keep [] w W)=>noneW_is W base x L F next sl (h.keep0 hk);have hA:=fun W (hk:Keep [] w W)=>XAe W base x L F next sl (h.keep0 hk) g c hL next (by have:=h.nb;omega);have hlt:next % sl.length<sl.length:=Nat.mod_lt _ h.pos;have hsl:=fun W (hk:Keep [] w W)=>(h.keep0 hk).slot W base x L F next sl g c hL (next % sl.length) hlt;have hq:sl.getD (next % sl.length) PSlot.none_=sl[next % sl.length]:=by rw[List.getD_eq_getElem?_getD,List.getElem?_eq_getElem hlt];rfl
 have hdat:=h.dat sl[next % sl.length] (List.getElem_mem _);have hc1:=fun W (hk:Keep [] w W)=>(h.keep0 hk).cells.2;rw[hq];clear hq;generalize sl[next % sl.length]=q at *;obtain⟨qv,⟨k,b,cc,e,d⟩,is⟩:=q;simp only at hsl hdat;obtain⟨QA,qc,rfl,_⟩:=ZB hdat;generalize next % sl.length=i at *;clear h hdat;have hkA:Keep [] w (w.alloc (.cells #[.int .i64 0,.int .i64 0,.int .i64 0,.int .i64 0,.slice none 0 0] 137)):=(Keep.refl _ _).alloc _;have hc1A:=hc1 _ hkA
 go_enter Tryz.func234,Tryz.ntmps234
 go_wp2_with (first
  | (go_at_call 232;refine(hN _ hkA).mono ?_;clear hN;rintro e w' ⟨rfl,rfl⟩)
  | (go_at_call 233;refine(hA _ hkA).mono ?_;clear hA;rintro e w1 ⟨rfl,hk1⟩))
 have hk1w:=hkA.trans0 hk1;have hbz:=(Blk.new w 137 #[.int .i64 0,.int .i64 0,.int .i64 0,.int .i64 0,.slice none 0 0]).keep0 hk1;have q0:=hbz.frozen 0;have q1:=hbz.frozen 1;have q2:=hbz.frozen 2;have q3:=hbz.frozen 3;have q4:=hbz.frozen 4;obtain⟨z0,z1,z2,z3,z4⟩:=JF hbz;have h5:=hbz.put5 (.int .i64 k) (.int .i64 b) (.int .i64 cc) (.int .i64 e) (.slice QA d.length qc);have hk5:=Keep.put5 w1 w.heap.size (.int .i64 k) (.int .i64 b) (.int .i64 cc) (.int .i64 e) (.slice QA d.length qc);unfold put5 at h5 hk5;have hkZ:=(hk1w.trans hk5 (fun x hx=>.inr (by simp at hx;omega))).drew;replace h5:=h5.drew;refine ZT (fun w'=>w'.cell? ⟨g,i*6,none⟩=some (.int .i64 k)∧w'.cell? ⟨g,i*6+1,none⟩=some (.int .i64 b)∧w'.cell? ⟨g,i*6+2,none⟩=some (.int .i64 cc)∧w'.cell? ⟨g,i*6+3,none⟩=some (.int .i64 e)∧w'.cell? ⟨g,i*6+4,none⟩=some (.slice QA d.length qc)∧w'.cell? ⟨g,i*6+5,none⟩=some (.bool is)) 9 [[0,1,2,3,4,5,6,7],[8]] (hsl _ (hk1w.trans0 (Keep.refl _ _).drew)) ?_;simp only[PI]
 iterate 8 (refine ZH ?_;simp only[Act.put,PU])
 refine XB (by rfl) (fun K hK=>?_)
 go_wp2_with fail
 refine hK _ _ ((hsl _ hkZ)) ?_;clear hK K
 try simp only[Act.put,PU]
 refine YB ?_
 go_wp2_with fail
 obtain⟨g0,g1,g2,g3,g4⟩:=JF h5;exact bodyPost_ret (v:=.tuple #[.agg #[.int .i64 k,.int .i64 b,.int .i64 cc,.int .i64 e,.slice QA d.length qc],.bool is]) (by simp[results,Tryz.results234,go_sem,g0,g1,g2,g3,g4]) rfl ⟨_,rfl,rfl,⟨_,_,rfl⟩,hkZ⟩
end
end
section
open Go.RowKit
theorem QAd (sl:List PSlot) (i:Nat) (hi:i<sl.length) (y:PSlot) :
 ((((((sl.flatMap slc).set (i*6) (.int .i64 y.o.k)).set (i*6+1) (.int .i64 y.o.b)).set (i*6+2) (.int .i64 y.o.c)).set (i*6+3) (.int .i64 y.o.e)).set (i*6+4) y.v).set (i*6+5) (.bool y.is)=(sl.set i y).flatMap slc:=by
 rw[show (sl.flatMap slc).set (i*6) (.int .i64 y.o.k)=(sl.flatMap slc).set (i*6+0) (.int .i64 y.o.k) from rfl,JU YF sl i 0 hi (by omega) _ ⟨sl[i].v,⟨y.o.k,sl[i].o.b,sl[i].o.c,sl[i].o.e,sl[i].o.d⟩,sl[i].is⟩ rfl,
  JU YF _ i 1 (by simpa using hi) (by omega) _ ⟨sl[i].v,⟨y.o.k,y.o.b,sl[i].o.c,sl[i].o.e,sl[i].o.d⟩,sl[i].is⟩ (by simp[slc]),List.set_set,
  JU YF _ i 2 (by simpa using hi) (by omega) _ ⟨sl[i].v,⟨y.o.k,y.o.b,y.o.c,sl[i].o.e,sl[i].o.d⟩,sl[i].is⟩ (by simp[slc]),List.set_set,
  JU YF _ i 3 (by simpa using hi) (by omega) _ ⟨sl[i].v,⟨y.o.k,y.o.b,y.o.c,y.o.e,sl[i].o.d⟩,sl[i].is⟩ (by simp[slc]),List.set_set,
  JU YF _ i 4 (by simpa using hi) (by omega) _ ⟨y.v,⟨y.o.k,y.o.b,y.o.c,y.o.e,sl[i].o.d⟩,sl[i].is⟩ (by simp[slc]),List.set_set,
  JU YF _ i 5 (by simpa using hi) (by omega) _ y (by simp[slc]),List.set_set]
def put6 (w:World) (g i:Nat) (y:PSlot):World:=
 (((((w.setCell ⟨g,i*6,none⟩ (.int .i64 y.o.k)).setCell ⟨g,i*6+1,none⟩ (.int .i64 y.o.b)).setCell ⟨g,i*6+2,none⟩ (.int .i64 y.o.c)).setCell ⟨g,i*6+3,none⟩ (.int .i64 y.o.e)).setCell ⟨g,i*6+4,none⟩ y.v).setCell ⟨g,i*6+5,none⟩ (.bool y.is)
theorem Keep.put6 (w:World) (g i:Nat) (y:PSlot):Keep [g] w (Go.Proofs.YtkonbpfbjiepfaaGreat.put6 w g i y):=by
 unfold Go.Proofs.YtkonbpfbjiepfaaGreat.put6;exact((((((Keep.refl [g] w).setCell (.inl (by simp)) _).setCell (.inl (by simp)) _).setCell (.inl (by simp)) _).setCell (.inl (by simp)) _).setCell (.inl (by simp)) _).setCell (.inl (by simp)) _
theorem WinIs.setSlot {w w2:World} {base x:Nat} {L:Value} {F:List Nat} {next:Nat} {sl:List PSlot} (h:WinIs w base x L F next sl) (hk:Keep [] w w2) (g c:Nat) (hL:L=.slice (some ⟨g,0,none⟩) sl.length c) (i:Nat) (hi:i<sl.length) (y:PSlot)
 (hy:w2.ownsRow base 5 1 y.v y.o.d.length (bys y.o.d)) (hzn:y.is=false→y=PSlot.none_) :
 ∃ F',WinIs (put6 w2 g i y) base x L F' next (sl.set i y)∧Keep F w (put6 w2 g i y)∧∀ z∈F',z∈F∨z∈y.v.ownBlock.toList:=by
 have h2:=h.keep0 hk;have hk6:=Keep.put6 w2 g i y;have hxg:x∉[g]:=fun hm=>h2.xL (by rw[hL];simp at hm;simp[Value.ownBlock,hm])
 have hst:∀ {q:Value} {n:Nat} {ys:List Value},w2.ownsRow base 5 1 q n ys→(put6 w2 g i y).ownsRow base 5 1 q n ys:=fun hq=>QB hq hk6 (fun z hz hm=>by
  simp at hm;subst hm;exact own_ne hq h2.row (by decide) hz (by rw[hL];rfl))
 have hrow:(put6 w2 g i y).ownsRow base 326 6 L (sl.set i y).length ((sl.set i y).flatMap slc):=by
  rw[← QAd sl i hi y,List.length_set];have hr:=h2.row;subst hL;exact XP (XP (XP (XP (XP (XP hr _ _) _ _) _ _) _ _) _ _) _ _
 refine⟨_,⟨h2.blk.keep hk6 hxg,hrow,fun q hq=>?_,rfl,h.base,by simpa using h.pos,by simpa using h.few,fun q hq hf=>?_,h.nb⟩,?_,fun z hz=>?_⟩
 · rcases List.mem_or_eq_of_mem_set hq with hq | rfl
   · exact hst (h2.dat q hq)
   · exact hst hy
 · rcases List.mem_or_eq_of_mem_set hq with hq | rfl
   · exact h.zero q hq hf
   · exact hzn hf
 · exact hk.zero.trans (hk6.sub (m:=F) (fun z hz=>by simp at hz;subst hz;exact h.inL _ (by rw[hL];simp[Value.ownBlock]))) (fun z hz=>.inl hz)
 · simp only[List.mem_cons,List.mem_append,List.mem_flatMap] at hz
   rcases hz with rfl | hz | ⟨q,hq,hz⟩
   · exact .inl h.inX
   · exact .inl (h.inL _ hz)
   · rcases List.mem_or_eq_of_mem_set hq with hq | rfl
     · exact .inl (h.inQ hq _ hz)
     · exact .inr hz
theorem WinIs.setNext {w:World} {base x:Nat} {L:Value} {F:List Nat} {next:Nat} {sl:List PSlot} (h:WinIs w base x L F next sl) (n:Nat) (hn:1≤n∧n≤2000000000) :
 WinIs (w.setCell ⟨x,1,none⟩ (.int .i64 n)) base x L F n sl∧Keep F w (w.setCell ⟨x,1,none⟩ (.int .i64 n)):=by
 have hk:Keep [x] w (w.setCell ⟨x,1,none⟩ (.int .i64 n)):=(Keep.refl _ _).setCell (p:=⟨x,1,none⟩) (.inl (by simp)) _
 exact⟨⟨by simpa using h.blk.set 1 (.int .i64 n),QB h.row hk (fun z hz hm=>by simp at hm;subst hm;exact h.xL (by simpa using hz)),fun q hq=>QB (h.dat q hq) hk (fun z hz hm=>by simp at hm;subst hm;exact h.xQ hq (by simpa using hz)),
  h.foot,h.base,h.pos,h.few,h.zero,hn⟩,hk.sub (fun z hz=>by simp at hz;subst hz;exact h.inX)⟩
theorem PSlot.none_dat (w:World) (base:Nat):w.ownsRow base 5 1 PSlot.none_.v PSlot.none_.o.d.length (bys PSlot.none_.o.d):=World.ownsRow_nil _ _ _ _
section
variable (w:World) (base x:Nat) (L:Value) (F:List Nat) (next:Nat) (sl:List PSlot) (h:WinIs w base x L F next sl)
include h
theorem QAr (hq:(sl.getD (next % sl.length) PSlot.none_).is=true):Calls Tryz.prog 236 #[.pointer (some ⟨x,0,none⟩)] w fun e w'=>e=.returned (.bool true)∧∃ F',WinIs w' base x L F' next (sl.set (next % sl.length) PSlot.none_)∧Keep F w w'∧∀ z∈F',z∈F:=by
 obtain⟨g,c,hL,hc⟩:=h.form;have hlt:next % sl.length<sl.length:=Nat.mod_lt _ h.pos;have hP:=PeekW_is w base x L F next sl h;have hA:=fun W (hk:Keep [] w W)=>XAe W base x L F next sl (h.keep0 hk) g c hL next (by have:=h.nb;omega);have hres:=fun W (hk:Keep [] w W)=>h.setSlot hk g c hL (next % sl.length) hlt PSlot.none_ (PSlot.none_dat W base) (fun _=>rfl);have hc1:=fun W (hk:Keep [] w W)=>(h.keep0 hk).cells.2;have hxl:=h.blk.lt;have hsl:=fun W (hk:Keep [] w W)=>(h.keep0 hk).slot W base x L F next sl g c hL (next % sl.length) hlt;have hfz:∀ W,Keep [] w W→∀ j,W.frozen? ⟨g,j,none⟩=false:=fun W hk j=>KO (by have:=(h.keep0 hk).row;rw[hL] at this;exact this) j;clear h;generalize sl[next % sl.length]=q0 at hsl;obtain⟨q0v,q0o,q0i⟩:=q0;simp only at hsl;obtain⟨i,hi⟩:∃ i,i=next % sl.length:=⟨_,rfl⟩;rw[← hi] at hA hres hsl hlt;have HI:=JB hi;have HQ:=JB hq;clear hq hi
 go_enter Tryz.func236,Tryz.ntmps236
 go_wp2_with (first
  | (go_at_call 234
     refine hP.mono ?_;clear hP;rintro e w1 ⟨q,hq,rfl,⟨QA,qc,hqv⟩,hk1⟩;rw[← hq,XA HQ,hq,hqv];clear hq hqv;have k1:=hc1 w1 hk1
     have hx1:x<w1.heap.size:=Nat.lt_of_lt_of_le hxl hk1.size)
  | (go_at_call 233
     refine(hA _ (by exact hk1.alloc _)).mono ?_;clear hA;rintro e w2 ⟨rfl,hk2⟩;have hk2w:=(hk1.alloc _).trans0 hk2;obtain⟨s0,s1,s2,s3,s4,s5⟩:=hsl w2 hk2w;have f0:=hfz w2 hk2w (i*6);have f1:=hfz w2 hk2w (i*6+1);have f2:=hfz w2 hk2w (i*6+2);have f3:=hfz w2 hk2w (i*6+3);have f4:=hfz w2 hk2w (i*6+4);have f5:=hfz w2 hk2w (i*6+5)))
 go_ret;obtain⟨F',r1,r2,r3⟩:=hres w2 hk2w;simp only[put6,PSlot.none_,POp.zero] at r1 r2;rw[← XA HI];simp only[PSlot.none_,POp.zero];refine⟨rfl,F',r1,r2,fun z hz=>(r3 z hz).resolve_right (by simp[PSlot.none_,Value.ownBlock])⟩
theorem KBL (hq:(sl.getD (next % sl.length) PSlot.none_).is=true) (hn:next≤1000000000):Calls Tryz.prog 237 #[.pointer (some ⟨x,0,none⟩)] w fun e w'=>∃ v b,e=.returned (.tuple #[v,b])∧∃ F',WinIs w' base x L F' (next+1) (sl.set (next % sl.length) PSlot.none_)∧Keep F w w'∧∀ z∈F',z∈F:=by
 have hP:=PeekW_is w base x L F next sl h;have hC:=fun W (hk:Keep [] w W)=>QAr W base x L F next sl (h.keep0 hk) hq;have hlt:=h.lt;have hxl:=h.blk.lt
 go_enter Tryz.func237,Tryz.ntmps237
 have hkA:Keep [] w (w.alloc (.cells #[.int .i64 0,.int .i64 0,.int .i64 0,.int .i64 0,.slice none 0 0] 137)):=(Keep.refl _ _).alloc _;have hPA:=PeekW_is _ base x L F next sl (h.keep0 hkA);have hbz:=Blk.new w 137 #[.int .i64 0,.int .i64 0,.int .i64 0,.int .i64 0,.slice none 0 0]
 go_wp2_with (first
  | (go_at_call 234
     refine hPA.mono ?_;clear hPA hP;rintro e w1 ⟨q,hq',rfl,⟨QA,qc,hqv⟩,hk1⟩;rw[hqv];clear hq' hqv;have hC1:=hC _ ((hkA.trans0 hk1).alloc (.cells #[.int .i64 q.o.k,.int .i64 q.o.b,.int .i64 q.o.c,.int .i64 q.o.e,.slice QA q.o.d.length qc] 137));have hbv:=Blk.new w1 137 #[.int .i64 q.o.k,.int .i64 q.o.b,.int .i64 q.o.c,.int .i64 q.o.e,.slice QA q.o.d.length qc];replace hbz:=hbz.keep0 (hk1.alloc (.cells #[.int .i64 q.o.k,.int .i64 q.o.b,.int .i64 q.o.c,.int .i64 q.o.e,.slice QA q.o.d.length qc] 137))
     clear hC)
  | (go_at_call 236
     refine hC1.mono ?_;clear hC1;rintro e w2 ⟨rfl,F',h2,hk2,hF2⟩;have hs1:=(hkA.trans0 hk1).size;have hzn:w.heap.size∉F:=fun hm=>by have:=hlt _ hm;omega
     have hvn:w1.heap.size∉F:=fun hm=>by have:=hlt _ hm;omega
     replace hbz:=hbz.keep hk2 hzn;replace hbv:=hbv.keep hk2 hvn;obtain⟨v0,v1,v2,v3,v4⟩:=JF hbv;obtain⟨z0,z1,z2,z3,z4⟩:=JF hbz;have f0:=hbz.frozen 0;have f1:=hbz.frozen 1;have f2:=hbz.frozen 2;have f3:=hbz.frozen 3;have f4:=hbz.frozen 4;have k1:=h2.cells.2;have g1:=h2.blk.frozen 1;have hne1:x≠w.heap.size:=by omega
     have hne2:x≠w1.heap.size:=by omega))
 obtain⟨h3,hk3⟩:=h2.setNext (next+1) (by omega);have hk3x:Keep [x] w2 (w2.setCell ⟨x,1,none⟩ (.int .i64 (next+1:Nat))):=(Keep.refl _ _).setCell (p:=⟨x,1,none⟩) (.inl (by simp)) _;have hbz3:=hbz.keep hk3x (by simpa using fun e=>hne1 e.symm);have h5:=hbz3.put5 (.int .i64 q.o.k) (.int .i64 q.o.b) (.int .i64 q.o.c) (.int .i64 q.o.e) (.slice QA q.o.d.length qc);have hk5:=Keep.put5 (w2.setCell ⟨x,1,none⟩ (.int .i64 (next+1:Nat))) w.heap.size (.int .i64 q.o.k) (.int .i64 q.o.b) (.int .i64 q.o.c) (.int .i64 q.o.e) (.slice QA q.o.d.length qc);have h4:=h3.keep hk5 (fun z hz hm=>by simp at hm;subst hm;exact hzn (hF2 _ hz));unfold put5 at h5 hk5 h4;obtain⟨g0,g1,g2,g3,g4⟩:=JF h5;have hcast:((next+1:Nat):Int)=(next:Nat)+1:=by omega
 rw[hcast] at g0 g1 g2 g3 g4 h4 hk5 hk3;refine bodyPost_ret (v:=.tuple #[.agg #[.int .i64 q.o.k,.int .i64 q.o.b,.int .i64 q.o.c,.int .i64 q.o.e,.slice QA q.o.d.length qc],.bool q.is]) (by simp[results,Tryz.results237,go_sem,g0,g1,g2,g3,g4]) rfl ⟨_,_,rfl,F',h4,?_,hF2⟩;exact((((hkA.trans0 hk1).alloc _).zero.trans hk2 (fun z hz=>.inl hz)).trans hk3 (fun z hz=>.inl (hF2 z hz))).trans hk5 (fun z hz=>.inr (by simp at hz;omega))
end
end
section
open Go.RowKit
theorem elemSlot:ElemN Tryz.prog 322 326 (.agg #[.int .i64 0,.int .i64 0,.int .i64 0,.int .i64 0,.slice none 0 0,.bool false]) 6 64:=ElemN.of Tryz.underlying322 (by kernel_rfl) rfl (by omega)
section
variable (w:World) (base x:Nat) (L:Value) (F:List Nat) (next:Nat) (sl:List PSlot) (h:WinIs w base x L F next sl)
include h
theorem KBH (n:Nat) (hn1:next≤n) (hn:n<next+sl.length) (hn2:n≤2147483647) (hq:(sl.getD (n % sl.length) PSlot.none_).is=false) (k b c e:Int) (A:Option Addr) (dc:Nat) (d:List UInt8) (hd:w.ownsRow base 5 1 (.slice A d.length dc) d.length (bys d)) :
 Calls Tryz.prog 145 #[.pointer (some ⟨x,0,none⟩),.int .i64 (n:Nat),.agg #[.int .i64 k,.int .i64 b,.int .i64 c,.int .i64 e,.slice A d.length dc]] w fun r w'=>r=.returned (.int .i64 0) ∧
  ∃ F',WinIs w' base x L F' next (sl.set (n % sl.length) ⟨.slice A d.length dc,⟨k,b,c,e,d⟩,true⟩)∧Keep F w w'∧∀ z∈F',z∈F∨z∈(Value.slice A d.length dc).ownBlock.toList:=by
 have hN:=fun W (hk:Keep [] w W)=>noneW_is W base x L F next sl (h.keep0 hk);have hkA:Keep [] w (w.alloc (.cells #[.int .i64 k,.int .i64 b,.int .i64 c,.int .i64 e,.slice A d.length dc] 137)):=(Keep.refl _ _).alloc _;have hbO:=Blk.new w 137 #[.int .i64 k,.int .i64 b,.int .i64 c,.int .i64 e,.slice A d.length dc];obtain⟨g,lc,hL,hc⟩:=h.form;obtain⟨k0,k1⟩:=(h.keep0 hkA).cells;have hi:n % sl.length<sl.length:=Nat.mod_lt _ h.pos;have hA:=fun W (hk:Keep [] w W)=>XAe W base x L F next sl (h.keep0 hk) g lc hL n (by omega);have hres:=fun W (hk:Keep [] w W)=>h.setSlot hk g lc hL (n % sl.length) hi ⟨.slice A d.length dc,⟨k,b,c,e,d⟩,true⟩ (KA hd hk) (fun h=>by cases h);have hsl:=fun W (hk:Keep [] w W)=>(h.keep0 hk).slot W base x L F next sl g lc hL (n % sl.length) hi;have hfz:∀ W,Keep [] w W→∀ j,W.frozen? ⟨g,j,none⟩=false:=fun W hk j=>KO (by have:=(h.keep0 hk).row;rw[hL] at this;exact this) j;have hqi:sl[n % sl.length].is=false:=by rw[List.getD_eq_getElem?_getD,List.getElem?_eq_getElem hi] at hq;exact hq
 have hlt:¬ ((n:Nat):Int)<(next:Nat):=by omega
 have hge:((n:Nat):Int)<((next:Nat):Int)+(sl.length:Nat):=by omega
 rw[hL] at k0;generalize sl[n % sl.length]=q0 at hsl hqi;obtain⟨q0v,q0o,q0i⟩:=q0;simp only at hsl hqi;subst hqi;obtain⟨i,hi'⟩:∃ i,i=n % sl.length:=⟨_,rfl⟩;rw[← hi'] at hA hres hsl hi;have HI:=JB hi';obtain⟨m,hm⟩:∃ m,m=sl.length:=⟨_,rfl⟩;have hm16:m≤16:=by rw[hm];exact h.few
 have hnb:=h.nb;rw[← hm] at k0 hge;have HM:=JB hm;clear hq hi' hn hm hL h
 go_enter Tryz.func145,Tryz.ntmps145
 go_wp2_with (refine(hN _ hkA).mono ?_;clear hN;rintro r w' ⟨rfl,rfl⟩)
 have hA1:=hA _ hkA.drew;refine ZT (fun w'=>w'.cell? ⟨x,0,none⟩=some (.slice (some ⟨g,0,none⟩) m lc)∧w'.cell? ⟨x,1,none⟩=some (.int .i64 (next:Nat))) 11 [[0,1,2,3,4,5,6,7,8,9,10]] ⟨k0,k1⟩ ?_;simp only[PI]
 iterate 11 (refine ZH ?_;simp only[Act.put,PU])
 refine YB ?_
 go_wp2_with (go_at_call 233
              refine hA1.mono ?_;clear hA1;rintro r w1 ⟨rfl,hk1⟩;have hk1w:=hkA.drew.trans0 hk1;obtain⟨s0,s1,s2,s3,s4,s5⟩:=hsl w1 hk1w)
 have hbO1:=hbO.keep0 ((Keep.refl _ _).drew.trans0 hk1);have hA2:=hA w1.drew hk1w.drew;obtain⟨o0,o1,o2,o3,o4⟩:=JF hbO1.drew;clear s0 s1 s2 s3 s4 s5;refine ZT (fun w'=>w'.cell? ⟨w.heap.size,0,none⟩=some (.int .i64 k)∧w'.cell? ⟨w.heap.size,1,none⟩=some (.int .i64 b)∧w'.cell? ⟨w.heap.size,2,none⟩=some (.int .i64 c)∧w'.cell? ⟨w.heap.size,3,none⟩=some (.int .i64 e)∧w'.cell? ⟨w.heap.size,4,none⟩=some (.slice A d.length dc)) 5 [[0,1,3,4],[2]] ⟨o0,o1,o2,o3,o4⟩ ?_;simp only[PI]
 iterate 4 (refine ZH ?_;simp only[Act.put,PU])
 refine XB (by rfl) (fun K hK=>?_)
 go_wp2_with (refine hA2.mono ?_;clear hA2;rintro r w2 ⟨rfl,hk2⟩)
 have hk2w:=hk1w.drew.trans0 hk2;refine hK _ _ ((JF (hbO1.drew.keep0 hk2))) ?_;clear hK K
 try simp only[Act.put,PU]
 refine YB ?_;obtain⟨s0,s1,s2,s3,s4,s5⟩:=hsl w2 hk2w;have f0:=hfz w2 hk2w (i*6);have f1:=hfz w2 hk2w (i*6+1);have f2:=hfz w2 hk2w (i*6+2);have f3:=hfz w2 hk2w (i*6+3);have f4:=hfz w2 hk2w (i*6+4);have f5:=hfz w2 hk2w (i*6+5)
 go_wp2_with fail
 go_ret;obtain⟨F',r1,r2,r3⟩:=hres w2 hk2w;simp only[put6] at r1 r2;rw[← XA HI];exact⟨rfl,F',r1,r2,r3⟩
end
end
section
open Go.RowKit Go.Shelf
attribute [local go_sem] Oper.semAt_some
theorem WinIs.putObj {W:World} {base x k next:Nat} {L:Value} {F:List Nat} {sl:List PSlot} {o:Obj} (h:WinIs W base x L F next sl) (o':Obj) (hl:W.heap[k]? = some o) (ho:o.isCells=false):WinIs (W.putObj k o') base x L F next sl:=
 ⟨ZJ o' h.blk hl ho,ownsRow_putObj h.row o' hl ho,fun q hq=>ownsRow_putObj (h.dat q hq) o' hl ho,h.foot,h.base,h.pos,h.few,h.zero,h.nb⟩
abbrev WRnd:=Nat×PSlot
end
end Go.Proofs.YtkonbpfbjiepfaaGreat
