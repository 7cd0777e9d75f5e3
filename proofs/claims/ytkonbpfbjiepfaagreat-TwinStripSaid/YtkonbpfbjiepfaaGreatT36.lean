/- Lemmas of the proof, with their conditions. -/
import Derived.Test.YtkonbpfbjiepfaaGreatT35
namespace Go.Proofs.YtkonbpfbjiepfaaGreat
set_option linter.unusedSimpArgs false
set_option linter.unusedVariables false
set_option maxHeartbeats 4000000
set_option maxRecDepth 100000
section
open Go.RowKit Go.Shelf
theorem Jq (bs:List UInt8) (p:Nat):Jg bs p 2=seg 64 bs p++seg 64 bs (p+1):=by
 rw[VT,VT];rfl
theorem ZBC {P X:World→Nat→Option Addr→Nat→Option Addr→Nat→Nat→Nat→Prop} {G:Prop} (f:(∀ a b c d e g h i,P a b c d e g h i→X a b c d e g h i)→G) (r:∀ a b c d e g h i,P a b c d e g h i→X a b c d e g h i):G:=f r
theorem reg0_may:reg0.May:=by simp[reg0,PReg.May,PPos.May]
theorem us0_ok:ZN us0 reg0.pos.seg:=segsOk_first
theorem Zr (b:Nat) (cs:List Value) (hl:cs.length=14) (h1:∀ u∈cs,u.oneCell'=true) (W:World) (h:W.there b 0 14):(Instr.storeAt 177 (.pointer (some ⟨b,0,none⟩)) (.agg cs.toArray)).run Tryz.prog W=.ok () (W.setCells b 0 cs):=
 run_storeAt_mid W b 0 177 cs.toArray (by simpa [hl] using h) (by rw[List.size_toArray,hl];kernel_rfl) (all_oneCell_toArray h1)
theorem ZAs {W:World} {f g a:Nat} {S0 S1:Value} {cs:Array Value} (hf:Blk W f 311 cs) (hb:Blk W a 254 #[S0,S1]) (hc:cs[1]? = some (.pointer (some ⟨g,0,none⟩))) :
 W.cell? ⟨f,1,none⟩=some (.pointer (some ⟨g,0,none⟩))∧W.cell? ⟨a,0,none⟩=some S0∧W.cell? ⟨a,1,none⟩=some S1:=⟨(hf.cell 1).trans hc,by simpa using hb.cell 0,by simpa using hb.cell 1⟩
structure RegP (w:World) (f d g B:Nat) (V:World) (NR:Nat) (BA:Option Addr) (bc:Nat) (OA:Option Addr) (oc:Nat) (UA uc:Nat):Prop where
 fin:Blk V f 311 #[.pointer (some ⟨d,0,none⟩),.pointer (some ⟨g,0,none⟩),.int .i64 B,.int .i64 8,.int .i64 24,.int .i64 1,.int .i64 1,.int .i64 0,.int .i64 0,.int .i64 0,.int .i64 0,.int .i64 0,.int .i64 0,.int .i64 0,.int .i64 0,.int .i64 0,.int .i64 0,.int .i64 0,.slice none 0 0,.slice none 0 0,.slice none 0 0,.int .i64 0,.pointer none,.pointer none,.int .i64 0,.int .i64 0,.int .i64 0,.int .i64 0,.int .i64 0,.int .i64 0,.int .i64 0,.int .i64 0,.int .i64 0,.int .i64 0,.int .i64 0,.int .i64 0,.int .i64 0,.int .i64 0,.int .i64 0]
 geom:GeomAt V g B
 u1:V.ownsRow w.heap.size 3 1 (.slice BA (pgs B) bc) (pgs B) (QH (List.replicate (pgs B) 0))
 u2:V.ownsRow w.heap.size 3 1 (.slice OA (pgs B) oc) (pgs B) (QH (List.replicate (pgs B) 0))
 u3:V.ownsRow w.heap.size 212 2 (.slice (some ⟨UA,0,none⟩) 8 uc) 8 (us0.flatMap JU)
 reg:Blk V NR 177 #[.int .i64 1,.int .i64 1,.int .i64 1,.int .i64 0,.int .i64 0,.int .i64 0,.int .i64 0,.int .i64 0,.int .i64 1,.int .i64 0,.int .i64 1,.slice BA (pgs B) bc,.slice OA (pgs B) oc,.slice (some ⟨UA,0,none⟩) 8 uc]
 kept:Keep [] w V
 nl:w.heap.size≤NR
structure RegPS (w:World) (f d g B:Nat) (V:World) (NR:Nat) (BA:Option Addr) (bc:Nat) (OA:Option Addr) (oc:Nat) (UA uc:Nat) (a:Nat) (S0 S1:Value):Prop where
 p:RegP w f d g B V NR BA bc OA oc UA uc
 arr:Blk V a 254 #[S0,S1]
theorem RegPS.fin {w:World} {f d g B:Nat} {V:World} {NR:Nat} {BA:Option Addr} {bc:Nat} {OA:Option Addr} {oc UA uc a:Nat} {S0 S1:Value} (h:RegPS w f d g B V NR BA bc OA oc UA uc a S0 S1):Blk V f 311 #[.pointer (some ⟨d,0,none⟩),.pointer (some ⟨g,0,none⟩),.int .i64 B,.int .i64 8,.int .i64 24,.int .i64 1,.int .i64 1,.int .i64 0,.int .i64 0,.int .i64 0,.int .i64 0,.int .i64 0,.int .i64 0,.int .i64 0,.int .i64 0,.int .i64 0,.int .i64 0,.int .i64 0,.slice none 0 0,.slice none 0 0,.slice none 0 0,.int .i64 0,.pointer none,.pointer none,.int .i64 0,.int .i64 0,.int .i64 0,.int .i64 0,.int .i64 0,.int .i64 0,.int .i64 0,.int .i64 0,.int .i64 0,.int .i64 0,.int .i64 0,.int .i64 0,.int .i64 0,.int .i64 0,.int .i64 0]:=h.p.fin
theorem RegP.of {w V:World} {f d g B a NR:Nat} {BA:Option Addr} {bc:Nat} {OA:Option Addr} {oc UA uc:Nat} {S0 S1:Value} {zs:Array Value} (hk:Keep [] w V) (hf:Blk V f 311 #[.pointer (some ⟨d,0,none⟩),.pointer (some ⟨g,0,none⟩),.int .i64 B,.int .i64 8,.int .i64 24,.int .i64 1,.int .i64 1,.int .i64 0,.int .i64 0,.int .i64 0,.int .i64 0,.int .i64 0,.int .i64 0,.int .i64 0,.int .i64 0,.int .i64 0,.int .i64 0,.int .i64 0,.slice none 0 0,.slice none 0 0,.slice none 0 0,.int .i64 0,.pointer none,.pointer none,.int .i64 0,.int .i64 0,.int .i64 0,.int .i64 0,.int .i64 0,.int .i64 0,.int .i64 0,.int .i64 0,.int .i64 0,.int .i64 0,.int .i64 0,.int .i64 0,.int .i64 0,.int .i64 0,.int .i64 0]) (hb:Blk V a 254 #[S0,S1]) (hg:GeomAt V g B)
 (u1:V.ownsRow w.heap.size 3 1 (.slice BA (pgs B) bc) (pgs B) (QH (List.replicate (pgs B) 0))) (u2:V.ownsRow w.heap.size 3 1 (.slice OA (pgs B) oc) (pgs B) (QH (List.replicate (pgs B) 0)))
 (u3:V.ownsRow w.heap.size 212 2 (.slice (some ⟨UA,0,none⟩) 8 uc) 8 (us0.flatMap JU)) (hx:Blk V NR 177 zs) (hl:w.heap.size≤NR) (hz:zs.size=14:=by rfl) :
 RegPS w f d g B (V.setCells NR 0 [.int .i64 1,.int .i64 1,.int .i64 1,.int .i64 0,.int .i64 0,.int .i64 0,.int .i64 0,.int .i64 0,.int .i64 1,.int .i64 0,.int .i64 1,.slice BA (pgs B) bc,.slice OA (pgs B) oc,.slice (some ⟨UA,0,none⟩) 8 uc]) NR BA bc OA oc UA uc a S0 S1:=by
 have hk2:=Keep.setCells (g:=NR) [.int .i64 1,.int .i64 1,.int .i64 1,.int .i64 0,.int .i64 0,.int .i64 0,.int .i64 0,.int .i64 0,.int .i64 1,.int .i64 0,.int .i64 1,.slice BA (pgs B) bc,.slice OA (pgs B) oc,.slice (some ⟨UA,0,none⟩) 8 uc] 0 (Keep.refl [NR] V) (.inl (by simp));have hne:∀ {e:TypeId} {n s:Nat} {Q:Value} {xs:List Value},V.ownsRow w.heap.size e s Q n xs→e≠177→∀ x,Q.ownBlock=some x→x∉[NR]:=fun hq he x hx' hm=>by simp at hm;subst hm;exact own_blk_ne hq hx he hx'
 exact⟨⟨hf.keep hk2 (by simpa using Blk.ne_ hf hx (by decide)),hg.keep hk2 (by simpa using Blk.ne_ hg.blk hx (by decide)),XB u1 hk2 (hne u1 (by decide)),XB u2 hk2 (hne u2 (by decide)),XB u3 hk2 (hne u3 (by decide)),hx.all [.int .i64 1,.int .i64 1,.int .i64 1,.int .i64 0,.int .i64 0,.int .i64 0,.int .i64 0,.int .i64 0,.int .i64 1,.int .i64 0,.int .i64 1,.slice BA (pgs B) bc,.slice OA (pgs B) oc,.slice (some ⟨UA,0,none⟩) 8 uc] (by simp[hz]),hk.trans hk2 (fun y hy=>.inr (by simp at hy;omega)),hl⟩,
  hb.keep hk2 (by simpa using Blk.ne_ hb hx (by decide))⟩
theorem ZAP (w:World) (f d g base B:Nat) (F:List Nat) (D:PDisk) (hf:Blk w f 311 #[.pointer (some ⟨d,0,none⟩),.pointer (some ⟨g,0,none⟩),.int .i64 B,.int .i64 8,.int .i64 24,.int .i64 1,.int .i64 1,.int .i64 0,.int .i64 0,.int .i64 0,.int .i64 0,.int .i64 0,.int .i64 0,.int .i64 0,.int .i64 0,.int .i64 0,.int .i64 0,.int .i64 0,.slice none 0 0,.slice none 0 0,.slice none 0 0,.int .i64 0,.pointer none,.pointer none,.int .i64 0,.int .i64 0,.int .i64 0,.int .i64 0,.int .i64 0,.int .i64 0,.int .i64 0,.int .i64 0,.int .i64 0,.int .i64 0,.int .i64 0,.int .i64 0,.int .i64 0,.int .i64 0,.int .i64 0]) (h:DiskAt w base d F D) (hoff:D.off=false) (hfl:∀ k,k<D.n→D.faults[k]? = some false) (hF:Fmt B D) (hg:GeomAt w g B) :
 Calls Tryz.prog 219 #[.pointer (some ⟨f,0,none⟩)] w fun e w'=>e=.returned (.int .i64 0)∧∃ t m N Ft Fm BA bc OA oc UA uc,Blk w' f 311 #[.pointer (some ⟨d,0,none⟩),.pointer (some ⟨g,0,none⟩),.int .i64 B,.int .i64 8,.int .i64 24,.int .i64 1,.int .i64 1,.int .i64 1,.int .i64 1,.int .i64 1,.int .i64 0,.int .i64 0,.int .i64 0,.int .i64 0,.int .i64 0,.int .i64 1,.int .i64 0,.int .i64 1,.slice BA (pgs B) bc,.slice OA (pgs B) oc,.slice (some ⟨UA,0,none⟩) 8 uc,.int .i64 0,.pointer (some ⟨t,0,none⟩),.pointer (some ⟨m,0,none⟩),.int .i64 1,.int .i64 1,.int .i64 0,.int .i64 0,.int .i64 0,.int .i64 0,.int .i64 1,.int .i64 0,.int .i64 0,.int .i64 0,.int .i64 0,.int .i64 0,.int .i64 0,.int .i64 0,.int .i64 0] ∧
  TableAt w' w.heap.size t g Ft us0 (List.replicate 8 0)∧ImageAt w' w.heap.size m Fm ⟨List.replicate B 0,List.replicate (pgs B) false,List.replicate B (-1),List.replicate (pgs B) false⟩∧(∀ x∈Ft,x<N)∧(∀ x∈Fm,N≤x)∧(∀ a,BA=some a→a.block<N)∧(∀ a,OA=some a→a.block<N) ∧
  w'.ownsRow w.heap.size 3 1 (.slice BA (pgs B) bc) (pgs B) (QH (List.replicate (pgs B) 0))∧w'.ownsRow w.heap.size 3 1 (.slice OA (pgs B) oc) (pgs B) (QH (List.replicate (pgs B) 0)) ∧
  Keep [f] w w':=by
 have hn:=hF.n;have hpb:=YC hg.pos hg.few;have hRr:=fun(p:Nat) (hp:p+2≤D.n) W (hk:Keep [] w W)=>XAk W f d base F D _ (hf.keep0 hk) rfl (h.keep0 hk) hoff hfl p 2 hp (by omega)
 have hRd0:∀ W,Keep [] w W→Calls Tryz.prog 291 #[.pointer (some ⟨f,0,none⟩),.int .i64 2,.int .i64 2] W fun e w'=>∃ u,e=.returned (.tuple #[u,.int .i64 0])∧w'.ownsRow W.heap.size 5 1 u 128 (bys (Vm B))∧Keep [] W w':=fun W hk=>by
  have:=hRr 2 (by omega) W hk
  rwa [Jq,hF.reg0] at this
 have hRd1:∀ W,Keep [] w W→Calls Tryz.prog 291 #[.pointer (some ⟨f,0,none⟩),.int .i64 4,.int .i64 2] W fun e w'=>∃ u,e=.returned (.tuple #[u,.int .i64 0])∧w'.ownsRow W.heap.size 5 1 u 128 (bys (List.replicate 128 0))∧Keep [] W w':=fun W hk=>by
  have:=hRr 4 (by omega) W hk
  rwa [Jq,hF.reg1] at this
 have hRg0:∀ W,Keep [] w W→Calls Tryz.prog 178 #[.pointer (some ⟨g,0,none⟩),.int .i64 0] W fun e w'=>e=.returned (.int .i64 2)∧W=w':=fun W hk=>by
  simpa using VN W g B (hg.keep0 hk) 0 (by omega)
 have hRg1:∀ W,Keep [] w W→Calls Tryz.prog 178 #[.pointer (some ⟨g,0,none⟩),.int .i64 1] W fun e w'=>e=.returned (.int .i64 4)∧W=w':=fun W hk=>by
  simpa using VN W g B (hg.keep0 hk) 1 (by omega)
 have hRl:=fun W (hk:Keep [] w W)=>RegionLenG_is W g B (hg.keep0 hk);clear hRr hfl;have hR:=fun(k:Nat) (hk:k<2) (W:World) (hK:Keep [] w W)=>hK
 go_enter Tryz.func219,Tryz.ntmps219
 go_wp2_with fail
 have hb0:=Blk.new w 254 #[.slice none 0 0,.slice none 0 0];have hk0:Keep [] w (w.alloc (.cells #[.slice none 0 0,.slice none 0 0] 254)):=(Keep.refl _ _).alloc _;generalize w.alloc (.cells #[.slice none 0 0,.slice none 0 0] 254)=wA at *
 have hne:∀ {q:Value} {n:Nat} {ys:List Value} {S0 S1:Value} {W:World},Blk W w.heap.size 254 #[S0,S1]→W.ownsRow w.heap.size 5 1 q n ys→∀ x,q.ownBlock=some x→x∉[w.heap.size]:=fun hB hq x hx hm=>by
  simp at hm;subst hm;exact own_blk_ne hq hB (by decide) hx
 go_loopw [4,5,6,10] (fun _ _ _ i wr=>∃ (k:Nat) (S0 S1:Value),k≤2∧i=.int .i64 (k:Nat)∧Blk wr w.heap.size 254 #[S0,S1]∧(0<k→∃ A c,S0=.slice A 128 c∧wr.ownsRow w.heap.size 5 1 S0 128 (bys (Vm B)))∧(1<k→∃ A c,S1=.slice A 128 c∧wr.ownsRow w.heap.size 5 1 S1 128 (bys (List.replicate 128 0)))∧Keep [] w wr) (fun _ _ _ i _=>2-(intOf i).toNat)
 case atStart=>exact⟨0,_,_,by omega,rfl,hb0,by omega,by omega,hk0⟩
 case round=>
  clear hb0 hk0;obtain⟨k,S0,S1,hk,rfl,hb,h0,h1,hkr⟩:=hrel
  by_cases hk0:k=0
  · subst hk0
    have hRk:=hR 0 (by omega) wr hkr;have hbD:=hb.drew;have hfD:=(hf.keep0 hkr).drew;have q1:wr.drew.cell? ⟨f,1,none⟩=some (.pointer (some ⟨g,0,none⟩)):=by simpa using hfD.cell 1
    have hkd:=hkr.drew
    go_wp2_with fail
    refine ZT (fun W=>W.cell? ⟨f,1,none⟩=some (.pointer (some ⟨g,0,none⟩))) 17 [[0,1,2,3,4,5,7,8,9,10],[6],[11],[12,13,14,15,16]] q1 ?_;simp only[PI]
    iterate 10 (refine ZH ?_;simp only[Act.put,PU])
    refine ZB (by rfl) (fun K hK=>?_)
    go_wp2_with (refine(hRg0 _ hkd).mono ?_;rintro e w2 ⟨rfl,rfl⟩)
    refine hK _ _ (q1) ?_;clear hK K
    try simp only[Act.put,PU]
    refine ZB (by rfl) (fun K hK=>?_)
    go_wp2_with (refine(hRl _ hkd).mono ?_;rintro e w2 ⟨rfl,rfl⟩)
    refine hK _ _ (q1) ?_;clear hK K
    try simp only[Act.put,PU]
    refine ZB (by rfl) (fun K hK=>?_)
    go_wp2_with (refine(hRd0 _ hkd).mono ?_;rintro e w2 ⟨u,rfl,hu,hk2⟩;obtain⟨UA,uc,rfl,_⟩:=JB hu)
    refine hK _ _ ((by simpa using(hfD.keep0 hk2).cell 1)) ?_;clear hK K
    try simp only[Act.put,PU]
    iterate 4 (refine ZH ?_;simp only[Act.put,PU])
    refine QC ?_;have hb2:=hbD.keep0 hk2;have q0:w2.cell? ⟨w.heap.size,0,none⟩=some S0:=by simpa using hb2.cell 0
    have f0:=hb2.frozen 0
    go_wp2_with fail
    have hbs:=hb2.set 0 (.slice UA 128 uc);have hks:Keep [w.heap.size] w2 (w2.setCell ⟨w.heap.size,0,none⟩ (.slice UA 128 uc)):=(Keep.refl _ _).setCell (p:=⟨w.heap.size,0,none⟩) (.inl (by simp)) _;have huB:=KB hu hkd.size;have hkE:=(hkd.trans0 hk2).trans hks (fun x hx=>.inr (by simp at hx;omega))
    go_roundw
    case rel=>exact⟨1,.slice UA 128 uc,S1,by omega,rfl,by simpa using hbs,fun _=>⟨UA,uc,rfl,XB huB hks (hne hb2 huB)⟩,by omega,hkE⟩
    case measure=>simp[intOf]
  · by_cases hk1:k=1
    · subst hk1
      obtain⟨A0,c0,rfl,hw0⟩:=h0 (by omega);have S0':True:=trivial;have hRk:=hR 1 (by omega) wr hkr;have hbD:=hb.drew;have hfD:=(hf.keep0 hkr).drew;have q1:wr.drew.cell? ⟨f,1,none⟩=some (.pointer (some ⟨g,0,none⟩)):=by simpa using hfD.cell 1
      have hkd:=hkr.drew
      go_wp2_with fail
      refine ZT (fun W=>W.cell? ⟨f,1,none⟩=some (.pointer (some ⟨g,0,none⟩))) 17 [[0,1,2,3,4,5,7,8,9,10],[6],[11],[12,13,14,15,16]] q1 ?_;simp only[PI]
      iterate 10 (refine ZH ?_;simp only[Act.put,PU])
      refine ZB (by rfl) (fun K hK=>?_)
      go_wp2_with (refine(hRg1 _ hkd).mono ?_;rintro e w2 ⟨rfl,rfl⟩)
      refine hK _ _ (q1) ?_;clear hK K
      try simp only[Act.put,PU]
      refine ZB (by rfl) (fun K hK=>?_)
      go_wp2_with (refine(hRl _ hkd).mono ?_;rintro e w2 ⟨rfl,rfl⟩)
      refine hK _ _ (q1) ?_;clear hK K
      try simp only[Act.put,PU]
      refine ZB (by rfl) (fun K hK=>?_)
      go_wp2_with (refine(hRd1 _ hkd).mono ?_;rintro e w2 ⟨u,rfl,hu,hk2⟩;obtain⟨UA,uc,rfl,_⟩:=JB hu)
      refine hK _ _ ((by simpa using(hfD.keep0 hk2).cell 1)) ?_;clear hK K
      try simp only[Act.put,PU]
      iterate 4 (refine ZH ?_;simp only[Act.put,PU])
      refine QC ?_;have hb2:=hbD.keep0 hk2;have q1:w2.cell? ⟨w.heap.size,1,none⟩=some S1:=by simpa using hb2.cell 1
      have f1:=hb2.frozen 1
      go_wp2_with fail
      have hbs:=hb2.set 1 (.slice UA 128 uc);have hks:Keep [w.heap.size] w2 (w2.setCell ⟨w.heap.size,1,none⟩ (.slice UA 128 uc)):=(Keep.refl _ _).setCell (p:=⟨w.heap.size,1,none⟩) (.inl (by simp)) _;have huB:=KB hu hkd.size;have hkE:=(hkd.trans0 hk2).trans hks (fun x hx=>.inr (by simp at hx;omega));have hw2:=QB hw0 ((Keep.refl [] wr).drew.trans0 hk2)
      go_roundw
      case rel=>exact⟨2,.slice A0 128 c0,.slice UA 128 uc,by omega,rfl,by simpa using hbs,fun _=>⟨A0,c0,rfl,XB hw2 hks (hne hb2 hw2)⟩,fun _=>⟨UA,uc,rfl,XB huB hks (hne hb2 huB)⟩,hkE⟩
      case measure=>simp[intOf]
    · obtain rfl:k=2:=by omega
      obtain⟨A0,c0,rfl,hw0⟩:=h0 (by omega);obtain⟨A1,c1,rfl,hw1⟩:=h1 (by omega);clear h0 h1;clear hRg0 hRg1 hRd0 hRd1 hRl hR h hF;have hfr:=hf.keep0 hkr;have hgr:=hg.keep0 hkr;have hlw:=hkr.size;clear hf hg
      go_wp2_with fail
      refine ZR (fun W=>W.cell? ⟨f,1,none⟩=some (.pointer (some ⟨g,0,none⟩))∧W.cell? ⟨w.heap.size,0,none⟩=some (.slice A0 128 c0)∧W.cell? ⟨w.heap.size,1,none⟩=some (.slice A1 128 c1)) 16 (.held 0 (.held 1 (.held 2 (.held 3 (.held 4 (.held 5 (.held 6 (.held 7 (.two 8 (.held 9 (.held 10 (.held 11 (.held 12 (.loud 13 (.loud 14 (.held 15 .nil))))))) 13 (.loud 8 (.held 9 (.held 10 (.held 11 (.held 12 (.loud 14 (.held 15 .nil)))))))))))))))) (ZAs hfr.drew hb.drew rfl) ?_;simp only[RT.pick,PJ]
      iterate 8 (refine ZK ?_;simp only[Act.put,PU])
      refine @ZBC (RegP w f d g B) ?XA _ (fun hR=>?_) ?_;rotate_left
      · have hk0:Keep [] w wr.drew:=hkr.drew
        have f0:=hfr.drew;have b0:=hb.drew;have g0:=hgr.keep0 (Keep.refl [] wr).drew;have o0:=QB hw0 (Keep.refl [] wr).drew;have o1:=QB hw1 (Keep.refl [] wr).drew;generalize wr.drew=V0 at hk0 f0 b0 g0 o0 o1 ⊢;refine wpR_two ?_ ?_
        · refine wpR_loud (by rfl) (fun K hK=>?_)
          have hC:=Jo V0 g B g0 reg0 reg0_may _ _ us0 (fun z hz=>by rw[List.eq_of_mem_replicate hz];omega) (fun z hz=>by rw[List.eq_of_mem_replicate hz];omega) (List.length_replicate ..) (List.length_replicate ..) us0_ok A0 A1 c0 c1 (Rd.of_own o0) (Rd.of_own o1)
          go_wp2_with (refine hC.mono ?_;clear hC;rintro e V1 ⟨BA,bc,OA,oc,UA,uc,rfl,u1,u2,u3,hk1⟩)
          replace f0:=f0.keep0 hk1;replace b0:=b0.keep0 hk1;replace g0:=g0.keep0 hk1;replace u1:=KB u1 hk0.size;replace u2:=KB u2 hk0.size;replace u3:=KB u3 hk0.size;replace hk0:=hk0.trans0 hk1;clear hk1 o0 o1;refine hK _ _ ((ZAs f0 b0 rfl)) ?_;clear hK K
          try simp only[Act.put,PU]
          iterate 4 (refine ZK ?_;simp only[Act.put,PU])
          refine wpR_loud (by rfl) (fun K hK=>?_)
          go_wp2_with fail
          have hka:=(Keep.refl [] V1).alloc (.cells #[.int .i64 0,.int .i64 0,.int .i64 0,.int .i64 0,.int .i64 0,.int .i64 0,.int .i64 0,.int .i64 0,.int .i64 0,.int .i64 0,.int .i64 0,.slice none 0 0,.slice none 0 0,.slice none 0 0] 177);have hbx:=Blk.new V1 177 #[.int .i64 0,.int .i64 0,.int .i64 0,.int .i64 0,.int .i64 0,.int .i64 0,.int .i64 0,.int .i64 0,.int .i64 0,.int .i64 0,.int .i64 0,.slice none 0 0,.slice none 0 0,.slice none 0 0];have hbl:=hk0.size;generalize V1.alloc (.cells #[.int .i64 0,.int .i64 0,.int .i64 0,.int .i64 0,.int .i64 0,.int .i64 0,.int .i64 0,.int .i64 0,.int .i64 0,.int .i64 0,.int .i64 0,.slice none 0 0,.slice none 0 0,.slice none 0 0] 177)=V2 at hka hbx ⊢;generalize V1.heap.size=NR at hbx hbl ⊢;replace f0:=f0.keep0 hka;replace b0:=b0.keep0 hka;replace g0:=g0.keep0 hka;replace u1:=QB u1 hka;replace u2:=QB u2 hka;replace u3:=QB u3 hka;replace hk0:=hk0.trans0 hka;refine hK _ _ ((ZAs f0 b0 rfl)) ?_;clear hK K
          try simp only[Act.put,PU]
          refine wpR_loud (by rfl) (fun K hK=>?_);refine VW _ _ _ rfl _ _ rfl rfl (Zr NR [.int .i64 1,.int .i64 1,.int .i64 1,.int .i64 0,.int .i64 0,.int .i64 0,.int .i64 0,.int .i64 0,.int .i64 1,.int .i64 0,.int .i64 1,.slice BA (pgs B) bc,.slice OA (pgs B) oc,.slice (some ⟨UA,0,none⟩) 8 uc] rfl (by simp[Value.oneCell']) V2 (QP hbx 14 (by simp))) ?_;have hP:=RegP.of hk0 f0 b0 g0 u1 u2 u3 hbx hbl;generalize V2.setCells NR 0 [.int .i64 1,.int .i64 1,.int .i64 1,.int .i64 0,.int .i64 0,.int .i64 0,.int .i64 0,.int .i64 0,.int .i64 1,.int .i64 0,.int .i64 1,.slice BA (pgs B) bc,.slice OA (pgs B) oc,.slice (some ⟨UA,0,none⟩) 8 uc]=V3 at hP ⊢;refine hK _ _ ((ZAs hP.fin hP.arr rfl)) ?_;clear hK K
          try simp only[Act.put,PU]
          iterate 1 (refine ZK ?_;simp only[Act.put,PU])
          refine wpR_nil ?_;exact hR V3 NR BA bc OA oc UA uc hP.p
        · refine wpR_loud (by rfl) (fun K hK=>?_)
          go_wp2_with fail
          have hka:=(Keep.refl [] V0).alloc (.cells #[.int .i64 0,.int .i64 0,.int .i64 0,.int .i64 0,.int .i64 0,.int .i64 0,.int .i64 0,.int .i64 0,.int .i64 0,.int .i64 0,.int .i64 0,.slice none 0 0,.slice none 0 0,.slice none 0 0] 177);have hbx:=Blk.new V0 177 #[.int .i64 0,.int .i64 0,.int .i64 0,.int .i64 0,.int .i64 0,.int .i64 0,.int .i64 0,.int .i64 0,.int .i64 0,.int .i64 0,.int .i64 0,.slice none 0 0,.slice none 0 0,.slice none 0 0];have hbl:=hk0.size;generalize V0.alloc (.cells #[.int .i64 0,.int .i64 0,.int .i64 0,.int .i64 0,.int .i64 0,.int .i64 0,.int .i64 0,.int .i64 0,.int .i64 0,.int .i64 0,.int .i64 0,.slice none 0 0,.slice none 0 0,.slice none 0 0] 177)=V2 at hka hbx ⊢;generalize V0.heap.size=NR at hbx hbl ⊢;replace f0:=f0.keep0 hka;replace b0:=b0.keep0 hka;replace g0:=g0.keep0 hka;replace o0:=QB o0 hka;replace o1:=QB o1 hka;replace hk0:=hk0.trans0 hka;refine hK _ _ ((ZAs f0 b0 rfl)) ?_;clear hK K
          try simp only[Act.put,PU]
          refine wpR_loud (by rfl) (fun K hK=>?_);have hC:=Jo V2 g B g0 reg0 reg0_may _ _ us0 (fun z hz=>by rw[List.eq_of_mem_replicate hz];omega) (fun z hz=>by rw[List.eq_of_mem_replicate hz];omega) (List.length_replicate ..) (List.length_replicate ..) us0_ok A0 A1 c0 c1 (Rd.of_own o0) (Rd.of_own o1)
          go_wp2_with (refine hC.mono ?_;clear hC;rintro e V1 ⟨BA,bc,OA,oc,UA,uc,rfl,u1,u2,u3,hk1⟩)
          replace f0:=f0.keep0 hk1;replace b0:=b0.keep0 hk1;replace g0:=g0.keep0 hk1;replace hbx:=hbx.keep0 hk1;replace u1:=KB u1 hk0.size;replace u2:=KB u2 hk0.size;replace u3:=KB u3 hk0.size;replace hk0:=hk0.trans0 hk1;clear hk1 o0 o1;refine hK _ _ ((ZAs f0 b0 rfl)) ?_;clear hK K
          try simp only[Act.put,PU]
          iterate 4 (refine ZK ?_;simp only[Act.put,PU])
          refine wpR_loud (by rfl) (fun K hK=>?_);refine VW _ _ _ rfl _ _ rfl rfl (Zr NR [.int .i64 1,.int .i64 1,.int .i64 1,.int .i64 0,.int .i64 0,.int .i64 0,.int .i64 0,.int .i64 0,.int .i64 1,.int .i64 0,.int .i64 1,.slice BA (pgs B) bc,.slice OA (pgs B) oc,.slice (some ⟨UA,0,none⟩) 8 uc] rfl (by simp[Value.oneCell']) V1 (QP hbx 14 (by simp))) ?_;have hP:=RegP.of hk0 f0 b0 g0 u1 u2 u3 hbx hbl;generalize V1.setCells NR 0 [.int .i64 1,.int .i64 1,.int .i64 1,.int .i64 0,.int .i64 0,.int .i64 0,.int .i64 0,.int .i64 0,.int .i64 1,.int .i64 0,.int .i64 1,.slice BA (pgs B) bc,.slice OA (pgs B) oc,.slice (some ⟨UA,0,none⟩) 8 uc]=V3 at hP ⊢;refine hK _ _ ((ZAs hP.fin hP.arr rfl)) ?_;clear hK K
          try simp only[Act.put,PU]
          iterate 1 (refine ZK ?_;simp only[Act.put,PU])
          refine wpR_nil ?_;exact hR V3 NR BA bc OA oc UA uc hP.p
      rintro V NR BA bc OA oc UA uc ⟨p1,p2,p3,p4,p5,p6,p7,p8⟩;clear hfr hgr hkr hw0 hw1 hb hlw;obtain⟨x0,x1,x2,x3,x4,x5,x6,x7,x8,x9,x10,x11,x12,x13⟩:=YB p6;have hNf:NR≠f:=Blk.ne_ p6 p1 (by decide);have hfN:f≠NR:=fun e=>hNf e.symm;have hltN:=p6.lt;have hltf:=p1.lt;have c7:V.cell? ⟨f,7,none⟩=some (.int .i64 0):=by simpa using p1.cell 7
      have c8:V.cell? ⟨f,8,none⟩=some (.int .i64 0):=by simpa using p1.cell 8
      have c9:V.cell? ⟨f,9,none⟩=some (.int .i64 0):=by simpa using p1.cell 9
      have c10:V.cell? ⟨f,10,none⟩=some (.int .i64 0):=by simpa using p1.cell 10
      have c11:V.cell? ⟨f,11,none⟩=some (.int .i64 0):=by simpa using p1.cell 11
      have c12:V.cell? ⟨f,12,none⟩=some (.int .i64 0):=by simpa using p1.cell 12
      have c13:V.cell? ⟨f,13,none⟩=some (.int .i64 0):=by simpa using p1.cell 13
      have c14:V.cell? ⟨f,14,none⟩=some (.int .i64 0):=by simpa using p1.cell 14
      have c15:V.cell? ⟨f,15,none⟩=some (.int .i64 0):=by simpa using p1.cell 15
      have c16:V.cell? ⟨f,16,none⟩=some (.int .i64 0):=by simpa using p1.cell 16
      have c17:V.cell? ⟨f,17,none⟩=some (.int .i64 0):=by simpa using p1.cell 17
      have c18:V.cell? ⟨f,18,none⟩=some (.slice none 0 0):=by simpa using p1.cell 18
      have c19:V.cell? ⟨f,19,none⟩=some (.slice none 0 0):=by simpa using p1.cell 19
      have c20:V.cell? ⟨f,20,none⟩=some (.slice none 0 0):=by simpa using p1.cell 20
      have c21:V.cell? ⟨f,21,none⟩=some (.int .i64 0):=by simpa using p1.cell 21
      have c24:V.cell? ⟨f,24,none⟩=some (.int .i64 0):=by simpa using p1.cell 24
      have c25:V.cell? ⟨f,25,none⟩=some (.int .i64 0):=by simpa using p1.cell 25
      have c26:V.cell? ⟨f,26,none⟩=some (.int .i64 0):=by simpa using p1.cell 26
      have c27:V.cell? ⟨f,27,none⟩=some (.int .i64 0):=by simpa using p1.cell 27
      have c28:V.cell? ⟨f,28,none⟩=some (.int .i64 0):=by simpa using p1.cell 28
      have c29:V.cell? ⟨f,29,none⟩=some (.int .i64 0):=by simpa using p1.cell 29
      have c30:V.cell? ⟨f,30,none⟩=some (.int .i64 0):=by simpa using p1.cell 30
      have c31:V.cell? ⟨f,31,none⟩=some (.int .i64 0):=by simpa using p1.cell 31
      have c32:V.cell? ⟨f,32,none⟩=some (.int .i64 0):=by simpa using p1.cell 32
      have c33:V.cell? ⟨f,33,none⟩=some (.int .i64 0):=by simpa using p1.cell 33
      have g7:=p1.frozen 7;have g8:=p1.frozen 8;have g9:=p1.frozen 9;have g10:=p1.frozen 10;have g11:=p1.frozen 11;have g12:=p1.frozen 12;have g13:=p1.frozen 13;have g14:=p1.frozen 14;have g15:=p1.frozen 15;have g16:=p1.frozen 16;have g17:=p1.frozen 17;have g18:=p1.frozen 18;have g19:=p1.frozen 19;have g20:=p1.frozen 20;have g21:=p1.frozen 21;have g24:=p1.frozen 24;have g25:=p1.frozen 25;have g26:=p1.frozen 26;have g27:=p1.frozen 27;have g28:=p1.frozen 28;have g29:=p1.frozen 29;have g30:=p1.frozen 30;have g31:=p1.frozen 31;have g32:=p1.frozen 32;have g33:=p1.frozen 33;have hz:=(((((((((((((((((((((((((p1.set 7 (.int .i64 1)).set 8 (.int .i64 1)).set 9 (.int .i64 1)).set 10 (.int .i64 0)).set 11 (.int .i64 0)).set 12 (.int .i64 0)).set 13 (.int .i64 0)).set 14 (.int .i64 0)).set 15 (.int .i64 1)).set 16 (.int .i64 0)).set 17 (.int .i64 1)).set 18 (.slice BA (pgs B) bc)).set 19 (.slice OA (pgs B) oc)).set 20 (.slice (some ⟨UA,0,none⟩) 8 uc)).set 21 (.int .i64 0)).set 24 (.int .i64 1)).set 25 (.int .i64 1)).set 26 (.int .i64 0)).set 27 (.int .i64 0)).set 28 (.int .i64 0)).set 29 (.int .i64 0)).set 30 (.int .i64 1)).set 31 (.int .i64 0)).set 32 (.int .i64 0)).set 33 (.int .i64 0));have hkz:=((((((((((((((((((((((((((Keep.refl [f] V).setCell (p:=⟨f,7,none⟩) (.inl (by simp)) (.int .i64 1)).setCell (p:=⟨f,8,none⟩) (.inl (by simp)) (.int .i64 1)).setCell (p:=⟨f,9,none⟩) (.inl (by simp)) (.int .i64 1)).setCell (p:=⟨f,10,none⟩) (.inl (by simp)) (.int .i64 0)).setCell (p:=⟨f,11,none⟩) (.inl (by simp)) (.int .i64 0)).setCell (p:=⟨f,12,none⟩) (.inl (by simp)) (.int .i64 0)).setCell (p:=⟨f,13,none⟩) (.inl (by simp)) (.int .i64 0)).setCell (p:=⟨f,14,none⟩) (.inl (by simp)) (.int .i64 0)).setCell (p:=⟨f,15,none⟩) (.inl (by simp)) (.int .i64 1)).setCell (p:=⟨f,16,none⟩) (.inl (by simp)) (.int .i64 0)).setCell (p:=⟨f,17,none⟩) (.inl (by simp)) (.int .i64 1)).setCell (p:=⟨f,18,none⟩) (.inl (by simp)) (.slice BA (pgs B) bc)).setCell (p:=⟨f,19,none⟩) (.inl (by simp)) (.slice OA (pgs B) oc)).setCell (p:=⟨f,20,none⟩) (.inl (by simp)) (.slice (some ⟨UA,0,none⟩) 8 uc)).setCell (p:=⟨f,21,none⟩) (.inl (by simp)) (.int .i64 0)).setCell (p:=⟨f,24,none⟩) (.inl (by simp)) (.int .i64 1)).setCell (p:=⟨f,25,none⟩) (.inl (by simp)) (.int .i64 1)).setCell (p:=⟨f,26,none⟩) (.inl (by simp)) (.int .i64 0)).setCell (p:=⟨f,27,none⟩) (.inl (by simp)) (.int .i64 0)).setCell (p:=⟨f,28,none⟩) (.inl (by simp)) (.int .i64 0)).setCell (p:=⟨f,29,none⟩) (.inl (by simp)) (.int .i64 0)).setCell (p:=⟨f,30,none⟩) (.inl (by simp)) (.int .i64 1)).setCell (p:=⟨f,31,none⟩) (.inl (by simp)) (.int .i64 0)).setCell (p:=⟨f,32,none⟩) (.inl (by simp)) (.int .i64 0)).setCell (p:=⟨f,33,none⟩) (.inl (by simp)) (.int .i64 0));simp only[List.setIfInBounds_toArray,List.set_cons_zero,List.set_cons_succ] at hz
      go_wp2_with fail
      clear x0 x1 x2 x3 x4 x5 x6 x7 x8 x9 x10 x11 x12 x13 c7 c8 c9 c10 c11 c12 c13 c14 c15 c16 c17 c18 c19 c20 c21 c24 c25 c26 c27 c28 c29 c30 c31 c32 c33 g7 g8 g9 g10 g11 g12 g13 g14 g15 g16 g17 g18 g19 g20 g21 g24 g25 g26 g27 g28 g29 g30 g31 g32 g33 hltN hltf;have hne:∀ {e:TypeId} {n s:Nat} {Q:Value} {xs:List Value},V.ownsRow w.heap.size e s Q n xs→e≠311→∀ x,Q.ownBlock=some x→x∉[f]:=fun hq he x hx' hm=>by simp at hm;subst hm;exact own_blk_ne hq p1 he hx'
      replace p3:=XB p3 hkz (hne p3 (by decide));replace p4:=XB p4 hkz (hne p4 (by decide));replace p5:=XB p5 hkz (hne p5 (by decide));replace p2:=p2.keep hkz (by simpa using Blk.ne_ p2.blk p1 (by decide));replace p6:=p6.keep hkz (by simpa using hNf);have p7:Keep [f] w _:=p7.zero.trans hkz (fun x hx=>.inl hx);clear hkz hne p1 hNf hfN;generalize (((((((((((((((((((((((((V.setCell ⟨f,7,none⟩ (.int .i64 1)).setCell ⟨f,8,none⟩ (.int .i64 1)).setCell ⟨f,9,none⟩ (.int .i64 1)).setCell ⟨f,10,none⟩ (.int .i64 0)).setCell ⟨f,11,none⟩ (.int .i64 0)).setCell ⟨f,12,none⟩ (.int .i64 0)).setCell ⟨f,13,none⟩ (.int .i64 0)).setCell ⟨f,14,none⟩ (.int .i64 0)).setCell ⟨f,15,none⟩ (.int .i64 1)).setCell ⟨f,16,none⟩ (.int .i64 0)).setCell ⟨f,17,none⟩ (.int .i64 1)).setCell ⟨f,18,none⟩ (.slice BA (pgs B) bc)).setCell ⟨f,19,none⟩ (.slice OA (pgs B) oc)).setCell ⟨f,20,none⟩ (.slice (some ⟨UA,0,none⟩) 8 uc)).setCell ⟨f,21,none⟩ (.int .i64 0)).setCell ⟨f,24,none⟩ (.int .i64 1)).setCell ⟨f,25,none⟩ (.int .i64 1)).setCell ⟨f,26,none⟩ (.int .i64 0)).setCell ⟨f,27,none⟩ (.int .i64 0)).setCell ⟨f,28,none⟩ (.int .i64 0)).setCell ⟨f,29,none⟩ (.int .i64 0)).setCell ⟨f,30,none⟩ (.int .i64 1)).setCell ⟨f,31,none⟩ (.int .i64 0)).setCell ⟨f,32,none⟩ (.int .i64 0)).setCell ⟨f,33,none⟩ (.int .i64 0))=w5 at *;have hUb:=own_mem p5 (g:=UA) (by simp[Value.ownBlock]);have hTb:=ZAV w5.drew g B (p2.keep0 (Keep.refl [] w5).drew) UA uc us0 (Rd.of_ownN p5).drew rfl (by decide);have hCf:=fun W (hk:Keep [] w5 W)=>ConfigG_is W g B (p2.keep0 hk);have hfd:=fun W=>VE (P:=Tryz.prog) Tryz.underlying27 0 rfl Tryz.isAgg3 #[.int .i64 B,.int .i64 8,.int .i64 24] rfl W;have hk1:Keep [] w5 w5.drew:=(Keep.refl [] w5).drew;have hIm:=fun W=>VAY W B p2.pos p2.few;have hs:=fun W (hk:Keep [] w5 W)=>(⟨by simpa using(hz.keep0 hk).cell 1,by simpa using(p6.keep0 hk).cell 13⟩:W.cell? ⟨f,1,none⟩=some (.pointer (some ⟨g,0,none⟩))∧W.cell? ⟨NR,13,none⟩=some (.slice (some ⟨UA,0,none⟩) 8 uc));refine ZT (fun W=>W.cell? ⟨f,1,none⟩=some (.pointer (some ⟨g,0,none⟩))∧W.cell? ⟨NR,13,none⟩=some (.slice (some ⟨UA,0,none⟩) 8 uc)) 19 [[0,1,2,3,4,5,6,7,9,10,11,12],[8],[13,14],[15,16,17],[18]] (hs _ hk1) ?_;simp only[PI]
      iterate 12 (refine ZH ?_;simp only[Act.put,PU])
      refine ZB (by rfl) (fun K hK=>?_)
      go_wp2_with (refine hTb.mono ?_;clear hTb;rintro e w6 ⟨t,Ft,rfl,ht6,hk6⟩)
      have hk2:=hk1.trans0 hk6;refine hK _ _ ((hs _ hk2)) ?_;clear hK K
      try simp only[Act.put,PU]
      refine ZB (by rfl) (fun K hK=>?_)
      go_wp2_with (refine(hCf _ hk2).mono ?_;rintro e w7 ⟨rfl,hk7⟩)
      have hk3:=hk2.trans0 hk7;refine hK _ _ ((hs _ hk3)) ?_;clear hK K
      try simp only[Act.put,PU]
      iterate 1 (refine ZH ?_;simp only[Act.put,PU])
      refine ZB (by rfl) (fun K hK=>?_)
      go_wp2_with (refine(hIm _).mono ?_;clear hIm;rintro e w8 ⟨m,Fm,rfl,hm8,hk8⟩)
      have hk4:=hk3.trans0 hk8;refine hK _ _ ((hs _ hk4)) ?_;clear hK K
      try simp only[Act.put,PU]
      iterate 2 (refine ZH ?_;simp only[Act.put,PU])
      have hb8:=hz.keep0 hk4;have c22:w8.cell? ⟨f,22,none⟩=some (.pointer none):=by simpa using hb8.cell 22
      have g22:=hb8.frozen 22;have hlt:=hb8.lt;have hNf:NR≠f:=Blk.ne_ p6 hz (by decide);have hb9:=hb8.set 22 (.pointer (some ⟨t,0,none⟩));simp only[List.setIfInBounds_toArray,List.set_cons_zero,List.set_cons_succ] at hb9;have hkS:Keep [f] w8 (w8.setCell ⟨f,22,none⟩ (.pointer (some ⟨t,0,none⟩))):=(Keep.refl _ _).setCell (p:=⟨f,22,none⟩) (.inl (by simp)) _;have p9:=(p6.keep0 hk4).keep hkS (by simpa using hNf);refine ZB (by rfl) (fun K hK=>?_)
      go_wp2_with fail
      refine hK _ _ (⟨by simpa using hb9.cell 1,by simpa using p9.cell 13⟩) ?_;clear hK K
      try simp only[Act.put,PU]
      refine QC ?_;have hkE:=(p7.trans0 hk4).trans hkS (fun x hx=>.inl hx);have hF5:∀ x,w5.drew.heap.size≤x→x∉[f]:=fun x hx hm=>by have:=hz.lt;simp at hm hx;omega
      have hszD:w5.drew.heap.size=w5.heap.size:=rfl;have t9:=(((ht6.keep0 hk7).keep0 hk8).rebase (b':=w.heap.size) (by rw[hszD];exact p7.size)).keep hkS (fun x hx=>hF5 x (ht6.ge x hx));have m9:=(hm8.rebase (b':=w.heap.size) (by have:=p7.size;have:=hk3.size;omega)).keep hkS (fun x hx=>hF5 x (by have:=hm8.ge x hx;have:=hk3.size;rw[hszD];omega));have hTf:Apart Ft [f]:=fun x hx=>hF5 x (ht6.ge x hx);have hMf:Apart Fm [f]:=fun x hx=>hF5 x (by have:=hm8.ge x hx;have:=hk3.size;rw[hszD];omega);have hTl:∀ x∈Ft,x<w7.heap.size:=fun x hx=>Nat.lt_of_lt_of_le (ht6.lt x hx) hk7.size;have hMl:∀ x∈Fm,w7.heap.size≤x:=hm8.ge;have hne:∀ {e:TypeId} {n s:Nat} {Q:Value} {xs:List Value},w5.ownsRow w.heap.size e s Q n xs→e≠311→∀ x,Q.ownBlock=some x→x∉[f]:=fun hq he x hx' hm=>by simp at hm;subst hm;exact own_blk_ne hq hz he hx'
      have o3:=XB (QB p3 hk4) hkS (hne p3 (by decide));have o4:=XB (QB p4 hk4) hkS (hne p4 (by decide));have hBl:∀ a,BA=some a→a.block<w7.heap.size:=fun a ha=>by have q1:=(own_mem p3 (g:=a.block) (by rw[ha];simp[Value.ownBlock])).2;have q2:=hk3.size;omega
      have hOl:∀ a,OA=some a→a.block<w7.heap.size:=fun a ha=>by have q1:=(own_mem p4 (g:=a.block) (by rw[ha];simp[Value.ownBlock])).2;have q2:=hk3.size;omega
      clear hb8 hz p9 p7 p6 p5 p3 p4 hk1 hk2 hk3 hk4 hk6 hk7 hk8 c22 g22 hlt hs hCf ht6 hm8 hne hkS p2 hUb;generalize w8.setCell ⟨f,22,none⟩ (.pointer (some ⟨t,0,none⟩))=w9 at *;have c23:w9.cell? ⟨f,23,none⟩=some (.pointer none):=by simpa using hb9.cell 23
      have g23:=hb9.frozen 23;have hlt:=hb9.lt;have hb10:=hb9.set 23 (.pointer (some ⟨m,0,none⟩));simp only[List.setIfInBounds_toArray,List.set_cons_zero,List.set_cons_succ] at hb10;have hkS:Keep [f] w9 (w9.setCell ⟨f,23,none⟩ (.pointer (some ⟨m,0,none⟩))):=(Keep.refl _ _).setCell (p:=⟨f,23,none⟩) (.inl (by simp)) _;have hne:∀ {e:TypeId} {n s:Nat} {Q:Value} {xs:List Value},w9.ownsRow w.heap.size e s Q n xs→e≠311→∀ x,Q.ownBlock=some x→x∉[f]:=fun hq he x hx' hm=>by simp at hm;subst hm;exact own_blk_ne hq hb9 he hx'
      go_wp2_with fail
      go_ret;exact⟨rfl,t,m,w7.heap.size,Ft,Fm,BA,bc,OA,oc,UA,uc,hb10,t9.keep hkS hTf,m9.keep hkS hMf,hTl,hMl,hBl,hOl,XB o3 hkS (hne o3 (by decide)),XB o4 hkS (hne o4 (by decide)),hkE.trans hkS (fun x hx=>.inl hx)⟩
end
section
open Go.RowKit Go.Shelf
attribute [local go_sem] Oper.semAt_some
theorem YAO (w:World) (f d g t m mb B:Nat) (Fm:List Nat) (BA OA:Option Addr) (bc oc UA uc:Nat) (od:List Bool) (hf:Blk w f 311 #[.pointer (some ⟨d,0,none⟩),.pointer (some ⟨g,0,none⟩),.int .i64 B,.int .i64 8,.int .i64 24,.int .i64 1,.int .i64 1,.int .i64 1,.int .i64 1,.int .i64 1,.int .i64 0,.int .i64 0,.int .i64 0,.int .i64 0,.int .i64 0,.int .i64 1,.int .i64 0,.int .i64 1,.slice BA (pgs B) bc,.slice OA (pgs B) oc,.slice (some ⟨UA,0,none⟩) 8 uc,.int .i64 0,.pointer (some ⟨t,0,none⟩),.pointer (some ⟨m,0,none⟩),.int .i64 1,.int .i64 1,.int .i64 0,.int .i64 0,.int .i64 0,.int .i64 0,.int .i64 1,.int .i64 0,.int .i64 0,.int .i64 0,.int .i64 0,.int .i64 0,.int .i64 1,.int .i64 0,.int .i64 1]) (hI:ImageAt w mb m Fm ⟨List.replicate B 0,List.replicate (pgs B) false,List.replicate B (-1),od⟩) (hfm:f∉Fm) :
 Calls Tryz.prog 301 #[.pointer (some ⟨f,0,none⟩)] w fun e w'=>e=.returned (.tuple #[])∧∃ od',ImageAt w' mb m Fm ⟨List.replicate B 0,List.replicate (pgs B) false,List.replicate B (-1),od'⟩∧Blk w' f 311 #[.pointer (some ⟨d,0,none⟩),.pointer (some ⟨g,0,none⟩),.int .i64 B,.int .i64 8,.int .i64 24,.int .i64 1,.int .i64 1,.int .i64 1,.int .i64 1,.int .i64 1,.int .i64 0,.int .i64 0,.int .i64 0,.int .i64 0,.int .i64 0,.int .i64 1,.int .i64 0,.int .i64 1,.slice BA (pgs B) bc,.slice OA (pgs B) oc,.slice (some ⟨UA,0,none⟩) 8 uc,.int .i64 0,.pointer (some ⟨t,0,none⟩),.pointer (some ⟨m,0,none⟩),.int .i64 1,.int .i64 1,.int .i64 0,.int .i64 0,.int .i64 0,.int .i64 0,.int .i64 1,.int .i64 0,.int .i64 0,.int .i64 0,.int .i64 0,.int .i64 0,.int .i64 1,.int .i64 0,.int .i64 1]∧Keep (f :: Fm) w w':=by
 have hFo:=XAe w mb m Fm _ hI;have hco:Kn (List.replicate B (-1)) (List.replicate B (-1)).length=List.replicate B (-1):=by rw[JM,List.length_replicate]
 simp only[hco] at hFo;clear hco;have c23:w.cell? ⟨f,23,none⟩=some (.pointer (some ⟨m,0,none⟩)):=by simpa using hf.cell 23
 go_enter Tryz.func301,Tryz.ntmps301
 go_wp2_with (
  refine hFo.mono ?_;clear hFo c23;rintro e w2 ⟨G,od',rfl,hG,hI2,hk2⟩;have hf2:=hf.keep hk2 hfm;have c28:w2.cell? ⟨f,28,none⟩=some (.int .i64 0):=by simpa using hf2.cell 28
  have c27:w2.cell? ⟨f,27,none⟩=some (.int .i64 0):=by simpa using hf2.cell 27
  have g27:=hf2.frozen 27;have hlt:=hf2.lt)
 have hz:=hf2.set 27 (.int .i64 0);simp only[List.setIfInBounds_toArray,List.set_cons_zero,List.set_cons_succ] at hz;have hkz:Keep [f] w2 (w2.setCell ⟨f,27,none⟩ (.int .i64 0)):=(Keep.refl _ _).setCell (p:=⟨f,27,none⟩) (.inl (by simp)) _
 go_end0
 exact⟨rfl,od',hI2.keep hkz (fun x hx hm=>by simp at hm;subst hm;exact hfm hx),hz,(hk2.sub (fun x hx=>List.mem_cons_of_mem _ hx)).trans (hkz.sub (fun x hx=>by simp at hx;simp[hx])) (fun x hx=>.inl hx)⟩
def FwS (b f d g:Nat) (W:World):Prop:=W.cell? ⟨b,0,none⟩=some (.pointer (some ⟨f,0,none⟩))∧W.cell? ⟨f,0,none⟩=some (.pointer (some ⟨d,0,none⟩))∧W.cell? ⟨f,1,none⟩=some (.pointer (some ⟨g,0,none⟩)) ∧
 W.cell? ⟨f,13,none⟩=some (.int .i64 0)∧W.cell? ⟨f,14,none⟩=some (.int .i64 0)∧W.cell? ⟨f,15,none⟩=some (.int .i64 1)∧W.cell? ⟨f,16,none⟩=some (.int .i64 0)∧W.cell? ⟨f,17,none⟩=some (.int .i64 1)
theorem VAC (w:World) (f d g t m mb base B:Nat) (F Fm:List Nat) (D:PDisk) (BA OA:Option Addr) (bc oc UA uc:Nat) (od:List Bool) (hf:Blk w f 311 #[.pointer (some ⟨d,0,none⟩),.pointer (some ⟨g,0,none⟩),.int .i64 B,.int .i64 8,.int .i64 24,.int .i64 1,.int .i64 1,.int .i64 1,.int .i64 1,.int .i64 1,.int .i64 0,.int .i64 0,.int .i64 0,.int .i64 0,.int .i64 0,.int .i64 1,.int .i64 0,.int .i64 1,.slice BA (pgs B) bc,.slice OA (pgs B) oc,.slice (some ⟨UA,0,none⟩) 8 uc,.int .i64 0,.pointer (some ⟨t,0,none⟩),.pointer (some ⟨m,0,none⟩),.int .i64 1,.int .i64 1,.int .i64 0,.int .i64 0,.int .i64 0,.int .i64 0,.int .i64 1,.int .i64 0,.int .i64 0,.int .i64 0,.int .i64 0,.int .i64 0,.int .i64 0,.int .i64 0,.int .i64 0]) (hI:ImageAt w mb m Fm ⟨List.replicate B 0,List.replicate (pgs B) false,List.replicate B (-1),od⟩) (h:DiskAt w base d F D) (hg:GeomAt w g B) (hoff:D.off=false) (hn:D.n=198+4*pgs B) (hfl:∀ k,k<D.n→D.faults[k]? = some false) (hz0:seg 64 D.now (6+4*pgs B)=List.replicate 64 0) (hfm:f∉Fm) :
 Calls Tryz.prog 221 #[.pointer (some ⟨f,0,none⟩)] w fun e w'=>e=.returned (.int .i64 0)∧∃ od',ImageAt w' mb m Fm ⟨List.replicate B 0,List.replicate (pgs B) false,List.replicate B (-1),od'⟩∧Blk w' f 311 #[.pointer (some ⟨d,0,none⟩),.pointer (some ⟨g,0,none⟩),.int .i64 B,.int .i64 8,.int .i64 24,.int .i64 1,.int .i64 1,.int .i64 1,.int .i64 1,.int .i64 1,.int .i64 0,.int .i64 0,.int .i64 0,.int .i64 0,.int .i64 0,.int .i64 1,.int .i64 0,.int .i64 1,.slice BA (pgs B) bc,.slice OA (pgs B) oc,.slice (some ⟨UA,0,none⟩) 8 uc,.int .i64 0,.pointer (some ⟨t,0,none⟩),.pointer (some ⟨m,0,none⟩),.int .i64 1,.int .i64 1,.int .i64 0,.int .i64 0,.int .i64 0,.int .i64 0,.int .i64 1,.int .i64 0,.int .i64 0,.int .i64 0,.int .i64 0,.int .i64 0,.int .i64 1,.int .i64 0,.int .i64 1]∧Keep (f :: Fm) w w':=by
 refine(callsIn_wide (n:=6)).1 ?_;refine callsIn_of_wp_marks Tryz.func221 rfl trivial ?_ rfl;simp only[Tryz.ntmps221,List.size_toArray,List.length_cons,List.length_nil,Nat.reduceAdd,Nat.reduceSub,Array.replicate_succ,Array.replicate_zero,List.push_toArray,List.append_toArray,List.nil_append,List.cons_append];have hlt:=hf.lt;have hFml:=hI.lt;have hkA:Keep [] w (w.alloc (.cells #[.pointer (some ⟨f,0,none⟩)] 309)):=(Keep.refl _ _).alloc _;have hbx:=Boxed.new w 309 (.pointer (some ⟨f,0,none⟩));have hfA:=hf.keep0 hkA
 gi_wp2
 generalize (w.alloc (.cells #[.pointer (some ⟨f,0,none⟩)] 309))=w1 at *;have hbD:=KA hbx (Keep.refl [] w1).drew (by simp);have hfD:=hfA.drew;refine XF (wpIn_wide.2 ?_);refine ZT (FwS w.heap.size f d g) 13 [[0,1,2,3,4,5,6,7,8,9,10,11,12]] ⟨hbD.cell,by simpa using hfD.cell 0,by simpa using hfD.cell 1,by simpa using hfD.cell 13,by simpa using hfD.cell 14,by simpa using hfD.cell 15,by simpa using hfD.cell 16,by simpa using hfD.cell 17⟩ ?_;simp only[PI]
 iterate 13 (refine QM ?_ (by rfl) ?_ ?_;rotate_left;(focus(rintro W ⟨hW0,hW1,hW2,hW3,hW4,hW5,hW6,hW7⟩;go_simp;try with_reducible rfl));simp only[Act.put,PU])
 refine QC ?_;have hCN:=QAE w1.drew d g
 go_wp2_with (
  refine hCN.mono ?_;clear hCN;rintro e w2 ⟨c,rfl,hc,hcl,hk2⟩)
 have hkw2:Keep [] w w2:=hkA.drew.trans0 hk2;have hb2:=KA hbD hk2 (by simp);have hf2:=hfD.keep0 hk2;have hc0:=hb2.cell;have c17:w2.cell? ⟨f,17,none⟩=some (.int .i64 1):=by simpa using hf2.cell 17
 have hlt2:=hf2.lt;clear hbD hfD hbx hfA hk2;have hRi:=VAQ (6-1) (.pointer (some ⟨c,0,none⟩)) (w2.alloc (.cells #[.int .i64 1] 3)) rfl
 gi_wp2_with (refine⟨trivial,?_⟩;refine hRi.mono ?_;clear hRi;rintro e w' ⟨rfl,rfl⟩)
 have hszV:(w2.alloc (.cells #[.int .i64 1] 3)).heap.size=w2.heap.size+1:=by simp
 obtain⟨w3,hw3⟩:∃ w3,w3=(w2.alloc (.cells #[.int .i64 1] 3)).alloc (.cells #[.pointer (some ⟨c,0,none⟩)] 392):=⟨_,rfl⟩;have hkw3:Keep [] w2 w3:=by rw[hw3];exact((Keep.refl [] w2).alloc _).alloc _
 have hbc:Boxed w3 (w2.heap.size+1) 392 (.pointer (some ⟨c,0,none⟩)):=by rw[hw3,← hszV];exact Boxed.new _ _ _
 rw[← hw3];clear hw3 hszV hc0 c17 hlt2;replace hc:XD w3 c d g:=Blk.keep0 hc hkw3;replace hb2:=KA hb2 hkw3 (by simp);replace hf2:=hf2.keep0 hkw3;have hkw:Keep [] w w3:=hkw2.trans0 hkw3;have hcw:w.heap.size≤c:=Nat.le_trans hkA.drew.size hcl;have hcl3:c<w3.heap.size:=by unfold XD at hc;exact hc.lt
 have hcn:c≠w2.heap.size+1:=fun e=>by unfold XD at hc;rw[e] at hc;exact Blk.ne_ hbc hc (by decide) rfl
 have hcb:c≠w.heap.size:=fun e=>by unfold XD at hc;rw[e] at hc;exact Blk.ne_ hb2 hc (by decide) rfl
 have hsz2:=hkw2.size
 refine XT (n:=6) (gf:=349) (lb:=#[.pointer (some ⟨w2.heap.size+1,0,none⟩)]) rfl (enters_of Tryz.func349 (by kernel_rfl) rfl) [c] (fun x hx=>by simp at hx;omega) (fun W=>XD W c d g)
  (fun W l o o' h hl hg' ho=>XH o' h hg' ho) (fun l W hW _=>?_) (fun D' W hD' hk hG hdef=>?_)
 · refine(Ks (6-1) W (.func (.yield l) #[] #[]) rfl (w2.heap.size+1) c d g B base F D (KA hbc hW (by simp)) (Blk.keep0 hc hW) (hg.keep0 (hkw.trans0 hW)) (h.keep0 (hkw.trans0 hW)) hoff hn (hfl _ (by omega)) hz0 (fun hm=>by have:=h.lt c hm;omega) (fun e=>by have:=hg.lt;omega) (fun e=>hcn e.symm)).mono ?_
   rintro e w' ⟨h1,h2,h3⟩;exact⟨h1,h3,h2⟩
 · have hfc:f≠c:=fun e=>by unfold XD at hG;have h1:=hf2.keep0 (Keep.refl [] w3);rw[e] at h1;exact Blk.ne_ h1 hc (by decide) rfl
   have hIW:=(hI.keep0 hkw).keep hk (fun x hx hm=>by have:=hI.lt x hx;simp at hm;omega);have u1:=hf2.keep hk (by simpa using hfc);have u2:=KA hb2 hk (by simpa using fun e=>hcb e.symm);have hkW:Keep [] w W:=hkw.trans hk (fun x hx=>.inr (by simp at hx;omega));clear hf2 hb2 hbc hc hk hkw hkw3 hkw2 hI;have z0:=u2.cell
   gi_wp2
   clear z0;refine XF (wpIn_wide.2 ?_);have hEnd:=fun X (hX:Keep [] W X)=>VAD X c d g (Blk.keep0 hG hX);have hkd:Keep [] W W.drew:=(Keep.refl [] W).drew;refine ZT (fun X=>X.cell? ⟨w.heap.size,0,none⟩=some (.pointer (some ⟨f,0,none⟩))) 3 [[0,1],[2]] ((KA u2 hkd (by simp)).cell) ?_;simp only[PI]
   iterate 2 (refine ZH ?_;simp only[Act.put,PU])
   refine ZB (by rfl) (fun K hK=>?_)
   go_wp2_with (refine(hEnd _ hkd).mono ?_;rintro e W1 ⟨rfl,hk1⟩)
   have hkd1:=hkd.trans0 hk1;replace u2:=KA u2 hkd1 (by simp);refine hK _ _ (u2.cell) ?_;clear hK K
   try simp only[Act.put,PU]
   refine QC ?_;replace u1:=u1.keep0 hkd1;replace hIW:=hIW.keep0 hkd1;replace hkW:=hkW.trans0 hkd1;have hG1:XD W1 c d g:=Blk.keep0 hG hkd1;have hdef1:=hkd1.heap_same hdef;have c34:W1.cell? ⟨f,34,none⟩=some (.int .i64 0):=by simpa using u1.cell 34
   have c35:W1.cell? ⟨f,35,none⟩=some (.int .i64 0):=by simpa using u1.cell 35
   have c36:W1.cell? ⟨f,36,none⟩=some (.int .i64 0):=by simpa using u1.cell 36
   have c37:W1.cell? ⟨f,37,none⟩=some (.int .i64 0):=by simpa using u1.cell 37
   have c38:W1.cell? ⟨f,38,none⟩=some (.int .i64 0):=by simpa using u1.cell 38
   have g34:=u1.frozen 34;have g35:=u1.frozen 35;have g36:=u1.frozen 36;have g37:=u1.frozen 37;have g38:=u1.frozen 38;have hltf:=u1.lt;have hz:=(((((u1.set 34 (.int .i64 0)).set 35 (.int .i64 0)).set 36 (.int .i64 1)).set 37 (.int .i64 0)).set 38 (.int .i64 1));have hkz:=((((((Keep.refl [f] W1).setCell (p:=⟨f,34,none⟩) (.inl (by simp)) (.int .i64 0)).setCell (p:=⟨f,35,none⟩) (.inl (by simp)) (.int .i64 0)).setCell (p:=⟨f,36,none⟩) (.inl (by simp)) (.int .i64 1)).setCell (p:=⟨f,37,none⟩) (.inl (by simp)) (.int .i64 0)).setCell (p:=⟨f,38,none⟩) (.inl (by simp)) (.int .i64 1));simp only[List.setIfInBounds_toArray,List.set_cons_zero,List.set_cons_succ] at hz
   go_wp2_with fail
   have hcf:c∉[f]:=fun hm=>by simp at hm;exact hfc hm.symm
   have hG2:XD (((((W1.setCell ⟨f,34,none⟩ (.int .i64 0)).setCell ⟨f,35,none⟩ (.int .i64 0)).setCell ⟨f,36,none⟩ (.int .i64 1)).setCell ⟨f,37,none⟩ (.int .i64 0)).setCell ⟨f,38,none⟩ (.int .i64 1)) c d g:=Blk.keep hG1 hkz hcf;have hI2:=hIW.keep hkz (fun x hx hm=>by simp at hm;subst hm;exact hfm hx);have u3:=KA u2 hkz (by simpa using Nat.ne_of_gt hlt);have hdf:D'≠f:=by omega
   have hdef2:=(hkz.block D' (Array.getElem?_eq_some_iff.1 hdef1).1 (by simpa using hdf)).trans hdef1;have hkW2:=(hkW.zero (l:=[f])).trans hkz (fun x hx=>.inl hx);clear hG1 hIW u1 u2 hdef1 hkW c34 c35 c36 c37 c38 g34 g35 g36 g37 g38 hltf hkz hdef hG hEnd hkd hk1 hkd1;generalize (((((W1.setCell ⟨f,34,none⟩ (.int .i64 0)).setCell ⟨f,35,none⟩ (.int .i64 0)).setCell ⟨f,36,none⟩ (.int .i64 1)).setCell ⟨f,37,none⟩ (.int .i64 0)).setCell ⟨f,38,none⟩ (.int .i64 1))=W2 at *;have hFg:=callsIn_wide (n:=6-1).2 (YAO W2 f d g t m mb B Fm BA OA bc oc UA uc od hz hI2 hfm);have z0:=u3.cell;have hER:=fun X (hX:XD X c d g)=>callsIn_wide (n:=6-1).2 (KAH X c d g hX)
   have hcm:c∉f :: Fm:=fun hm=>by
    rcases List.mem_cons.1 hm with e | hm
    · exact hfc e.symm
    · have:=hFml c hm;omega
   gi_wp2_with (first
    | (refine⟨trivial,?_⟩
       refine hFg.mono ?_;clear hFg z0;rintro e W3 ⟨rfl,od',hI3,hz3,hk3⟩;have hG3:XD W3 c d g:=Blk.keep hG2 hk3 hcm
       have hER3:=hER _ hG3)
    | (refine⟨trivial,?_⟩;refine hER3.mono ?_;clear hER3;rintro e W4 ⟨rfl,rfl⟩))
   have hdm:D'∉f :: Fm:=fun hm=>by
    rcases List.mem_cons.1 hm with e | hm
    · exact hdf e
    · have:=hFml D' hm;omega
   have hdef3:=(hk3.block D' (Array.getElem?_eq_some_iff.1 hdef2).1 hdm).trans hdef2;refine⟨by simp,.inl ⟨_,_,rfl,run_takeDeferred hdef3,?_⟩⟩;refine⟨.int .i64 0,?_,rfl,od',(by obtain⟨q1,q2,q3,q4,q5⟩:=hI3;exact⟨q1,q2,q3,q4,q5.putObj _ hdef3 rfl⟩),XH _ hz3 hdef3 rfl,((hkW2.sub (fun x hx=>by simp at hx;simp[hx])).trans hk3 (fun x hx=>.inl hx)).putObj (by omega) _⟩;simp[results,Tryz.results221,go_sem]
end
end Go.Proofs.YtkonbpfbjiepfaaGreat
