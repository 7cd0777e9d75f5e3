/- Lemmas of the proof, with their conditions. -/
import Derived.Test.YtkonbpfbjiepfaaGreatT37
namespace Go.Proofs.YtkonbpfbjiepfaaGreat
set_option linter.unusedSimpArgs false
set_option linter.unusedVariables false
set_option maxHeartbeats 4000000
set_option maxRecDepth 100000
section
open Go.RowKit Go.Shelf
attribute [local go_sem] Oper.semAt_some
def YW (ds:List Bool) (k:Nat):List Nat:=(List.range k).filter (fun i=>ds.getD i false)
theorem YAF (ds:List Bool) (k:Nat):YW ds (k+1)=if ds.getD k false then YW ds k++[k] else YW ds k:=by
 unfold YW;rw[List.range_succ,List.filter_append];cases h:ds.getD k false
 · rw[if_neg (by simp)];simp only[List.filter_cons,h];simp
 · rw[if_pos rfl];simp only[List.filter_cons,h];simp
def YAq (k:Nat):Array Value:=#[.int .i64 (k:Nat)]
def QAr (ds:List Bool) (pre:List Nat) (k:Nat) (_:World):Prop:=k<ds.length∧pre=YW ds k∧ds.getD k false=true
def XAq (base p bc:Nat) (F:List Nat) (l:List Int) (ds:List Bool) (W W':World):Prop:=
 (Boxed W bc 198 (.pointer (some ⟨p,0,none⟩))→Boxed W' bc 198 (.pointer (some ⟨p,0,none⟩)))∧(PagedAt W base p F l ds→PagedAt W' base p F l ds)
theorem JAo (n:Nat) (v:Value) (w:World) (hv:v.oneCell'=true) :
 CallsIn Fence.wide n Tryz.prog 356 #[v] w fun e w'=>e=.returned (.func (.func 393) #[] #[.pointer (some ⟨w.heap.size,0,none⟩)])∧w'=w.alloc (.cells #[v] 198):=by
 refine(callsIn_wide (n:=n)).2 ?_
 go_enter Tryz.func356,Tryz.ntmps356
 go_wp2
 go_ret;exact⟨rfl,rfl⟩
theorem KAA (w:World) (base m p1 p2:Nat) (F F1 F2:List Nat) (I:PImage) (h:ImageIs w base m p1 p2 F F1 F2 I) (over:Bool) :
 Calls Tryz.prog 312 #[.pointer (some ⟨m,0,none⟩),.bool over] w fun e w'=>e=.returned (.func (.func 393) #[] #[.pointer (some ⟨w.heap.size,0,none⟩)])∧w'=w.alloc (.cells #[.pointer (some ⟨if over then p2 else p1,0,none⟩)] 198):=by
 have hT:=XM w base m p1 p2 F F1 F2 I h over;generalize (if over then p2 else p1)=pt at *;have hD:=(callsIn_wide (n:=0)).1 (JAo 0 (.pointer (some ⟨pt,0,none⟩)) w rfl)
 go_enter Tryz.func312,Tryz.ntmps312
 go_wp2_with (first
  | (go_at_call 119;refine hT.mono ?_;clear hT;rintro e w' ⟨rfl,rfl⟩)
  | (go_at_call 356;refine hD.mono ?_;clear hD;rintro e w' ⟨rfl,rfl⟩))
 go_ret;exact⟨rfl,rfl⟩
theorem QAf (n bc base p:Nat) (F:List Nat) (l:List Int) (ds:List Bool) (w:World) (hs:PagedAt w base p F l ds) (hbc:Boxed w bc 198 (.pointer (some ⟨p,0,none⟩))) :
 KAx n Tryz.prog 393 #[.pointer (some ⟨bc,0,none⟩)] YAq (QAr ds) (XAq base p bc F l ds) (fun xs=>xs=YW ds ds.length) w:=by
 intro lb J W hW hJ hY h0;replace hs:PagedAt W base p F l ds:=hs.keep0 hW;replace hbc:Boxed W bc 198 (.pointer (some ⟨p,0,none⟩)):=(hW.block bc hbc.lt (by simp)).trans hbc;have hcb:=hbc.cell
 have hd5:ds.length≤5:=by
  obtain⟨L,U,h⟩:=hs;have h1:=h.pages;have h2:=h.few;rw[h1];unfold pgs;omega
 have hT:=callsIn_wide (n:=n-1).2 (Zm W base p F l ds hs);refine callsIn_of_wp Tryz.func393 rfl trivial ?_ rfl;simp only[Tryz.ntmps393,List.size_toArray,List.length_cons,List.length_nil,Nat.reduceAdd,Nat.reduceSub,Array.replicate_succ,Array.replicate_zero,List.push_toArray,List.append_toArray,List.nil_append,List.cons_append]
 gi_wp2_with (refine⟨trivial,fun h=>by simp[Fence.wide] at h,?_⟩;refine hT.mono ?_;clear hT;rintro e w' ⟨rfl,rfl⟩)
 gi_loopw [3,6] (fun _ i wr=>∃ (k:Nat) (pre:List Nat),k≤ds.length∧i=.int .i64 (k:Nat)∧J pre wr∧Hid (pre=YW ds k)∧PagedAt wr base p F l ds∧Boxed wr bc 198 (.pointer (some ⟨p,0,none⟩)))
  (fun _ i _=>ds.length-(intOf i).toNat)
 case atStart=>exact⟨0,[],Nat.zero_le _,rfl,h0,rfl,hs,hbc⟩
 case round=>
  clear hs hbc h0 hcb;obtain⟨k,pre,hk,rfl,hJp,hpl,hs,hbc⟩:=hrel;have hcb:=hbc.cell
  by_cases hlt:k<ds.length
  · have hltI:((k:Nat):Int)<(ds.length:Nat):=by omega
    have hPA:=hs;obtain⟨L,U,hP⟩:=hs;obtain⟨g,c,u,uc,rfl,rfl,_⟩:=hP.forms;have hc2:=hP.cells.2.2;have hds:=YAF ds k;have hgd:ds.getD k false=ds[k]:=by rw[List.getD_eq_getElem?_getD,List.getElem?_eq_getElem hlt];rfl
    have hcx:wr.cell? ⟨u,k,none⟩=some (.bool ds[k]):=JI hP.rd (by simp[hlt]);have HPA:=XC hPA;have HDS:=XC hds;have HGD:=XC hgd;clear hP hPA hds hgd
    cases hdk:ds[k] with
    | true=>
      rw[hdk] at hcx;obtain⟨fn,tmps,assign,body,hy,hR⟩:=hY pre k wr hJp ⟨hlt,JA hpl,by rw[JA HGD];exact hdk⟩;dsimp only[YAq] at hy;have HDK:=XC hdk;clear hdk;have HLT:=XC hlt
      gi_wp2
      refine⟨fun h=>by simp[Fence.wide] at h,hR.mono ?_⟩;rintro e W3 ⟨rfl,hJ3,hb3,hs3⟩;have hs4:=hs3 (JA HPA);clear hy hR hc2 hcx hs3
      gi_wp2
      go_roundw
      case rel=>exact⟨k+1,_,by omega,by go_num,hJ3,by show _=_;rw[JA HDS,JA HGD,JA HDK,JA hpl];rfl,hs4,hb3 hbc⟩
      case measure=>simp[intOf];omega
    | false=>
      rw[hdk] at hcx;have HDK:=XC hdk;clear hdk hY
      gi_wp2
      refine⟨fun f hf=>(by cases hf),?_⟩
      gi_wp2
      go_roundw
      case rel=>exact⟨k+1,pre,by omega,by go_num,hJp,by show _=_;rw[JA HDS,JA HGD,JA HDK];exact JA hpl,JA HPA,hbc⟩
      case measure=>simp[intOf];omega
  · obtain rfl:k=ds.length:=by omega
    gi_wp2
    go_end0
    exact⟨⟨_,rfl⟩,pre,JA hpl,hJp⟩
end
section
open Go.RowKit Go.Shelf
attribute [local go_sem] Oper.semAt_some
structure MetaD (lo:Nat) (D D':PDisk) (c:Nat):Prop where
 n:D'.n=D.n
 off:D'.off=D.off
 fuse:D'.fuse=D.fuse
 flt:D'.faults=D.faults
 acts:D'.acts≤D.acts+c
 nlen:D.now.length=D.n*64→D'.now.length=D.n*64
 now:D.now.length=D.n*64→∀ i,lo≤i→seg 64 D'.now i=seg 64 D.now i
theorem MetaD.refl (lo:Nat) (D:PDisk):MetaD lo D D 0:=⟨rfl,rfl,rfl,rfl,Nat.le_refl _,id,fun _ _ _=>rfl⟩
theorem MetaD.trans {lo c c':Nat} {D D1 D2:PDisk} (h:MetaD lo D D1 c) (h':MetaD lo D1 D2 c'):MetaD lo D D2 (c+c'):=
 ⟨h'.n.trans h.n,h'.off.trans h.off,h'.fuse.trans h.fuse,h'.flt.trans h.flt,by have:=h.acts;have:=h'.acts;omega,
   fun e=>by have:=h'.nlen (by rw[h.nlen e,h.n]);rw[this,h.n],fun e i hi=>(h'.now (by rw[h.nlen e,h.n]) i hi).trans (h.now e i hi)⟩
theorem MetaD.write {lo:Nat} {D:PDisk} {k:Nat} {bs:List UInt8} (hk:k<lo) (hl:lo≤D.n) (hb:bs.length=64):MetaD lo D (D.write k bs) 1:=by
 refine⟨rfl,rfl,rfl,rfl,Nat.le_refl _,fun e=>?_,fun e i hi=>?_⟩
 · show (laid D.now (k*64) bs).length=_
   rw[VD _ _ _ (by omega),e]
 · show seg 64 (laid D.now (k*64) bs) i=_
   exact seg_laid_other 64 _ _ _ _ (by omega) hb (by omega)
theorem MetaD.flush (lo:Nat) (D:PDisk):MetaD lo D D.flush 1:=⟨rfl,rfl,rfl,rfl,Nat.le_refl _,id,fun _ _ _=>rfl⟩
theorem MetaD.mono {lo c c':Nat} {D D':PDisk} (h:MetaD lo D D' c) (hc:c≤c'):MetaD lo D D' c':=⟨h.n,h.off,h.fuse,h.flt,by have:=h.acts;omega,h.nlen,h.now⟩
structure KPg (w:World) (base d:Nat) (Fd:List Nat) (B:Nat) (D:PDisk) (sv:Value) (ov:Bool) (N b6 lg lc:Nat) (pre:List Nat) (W:World):Prop where
 st:∃ Fd' D' lie,DiskAt W base d Fd' D'∧MetaD (6+4*pgs B) D D' pre.length∧(∀ x∈Fd',x∈Fd∨N≤x)∧W.ownsRow w.heap.size 3 1 (.slice (some ⟨lg,0,none⟩) (pgs B) lc) (pgs B) (QH lie)∧∀ x∈lie,x≤1
 size:N≤W.heap.size
 b2:Boxed W w.heap.size 34 sv
 b3:Boxed W (w.heap.size+1) 4 (.bool ov)
 b4:Boxed W (w.heap.size+2) 22 (.slice none 0 0)
 b5:Boxed W (w.heap.size+3) 31 (.int .i64 0)
 b6:Boxed W b6 22 (.slice (some ⟨lg,0,none⟩) (pgs B) lc)
 keep:Keep Fd w W
theorem KPg.kept {w X Y:World} {base d:Nat} {Fd:List Nat} {B:Nat} {D:PDisk} {sv:Value} {ov:Bool} {N b6 lg lc:Nat} {pre:List Nat} (h:KPg w base d Fd B D sv ov N b6 lg lc pre X) (hk:Keep [] X Y):KPg w base d Fd B D sv ov N b6 lg lc pre Y:=by
 obtain⟨F',D',lie,h1,h2,h3,h4,h5⟩:=h.st;exact⟨⟨F',D',lie,h1.keep0 hk,h2,h3,QB h4 hk,h5⟩,Nat.le_trans h.size hk.size,KA h.b2 hk (by simp),KA h.b3 hk (by simp),KA h.b4 hk (by simp),KA h.b5 hk (by simp),KA h.b6 hk (by simp),h.keep.trans0 hk⟩
theorem KPg.turned {w W:World} {base d:Nat} {Fd:List Nat} {B:Nat} {D:PDisk} {sv:Value} {ov:Bool} {N b6 lg lc l:Nat} {pre:List Nat} {o o':Obj} (h:KPg w base d Fd B D sv ov N b6 lg lc pre W) (hl:w.heap.size≤l) (hg:W.heap[l]? = some o) (ho:o.isCells=false):KPg w base d Fd B D sv ov N b6 lg lc pre (W.putObj l o'):=by
 obtain⟨F',D',lie,h1,h2,h3,h4,h5⟩:=h.st;exact⟨⟨F',D',lie,h1.putObj o' hg ho,h2,h3,ownsRow_putObj h4 o' hg ho,h5⟩,by rw[World.putObj_size];exact h.size,ZC o' h.b2 hg ho,ZC o' h.b3 hg ho,ZC o' h.b4 hg ho,ZC o' h.b5 hg ho,ZC o' h.b6 hg ho,h.keep.putObj hl o'⟩
theorem XAK (w:World) (base s d g t p m:Nat) (Fd Ft Fw Fm:List Nat) (L0 L1:Value) (B:Nat) (S:PS) (h:StoreIs w base s d g t p m Fd Ft Fw Fm L0 L1 B S) (hl0:∀ x∈S.lie0,x≤1) (hl1:∀ x∈S.lie1,x≤1) (ha:S.D.acts≤2000000) (over:Bool) :
 Calls Tryz.prog 240 #[.pointer (some ⟨s,0,none⟩),.bool over] w fun e w'=>∃ u lie Fd' D',e=.returned (.tuple #[u,.int .i64 0])∧w'.ownsRow w.heap.size 3 1 u (pgs B) (QH lie)∧(∀ x∈lie,x≤1) ∧
  StoreIs w' base s d g t p m Fd' Ft Fw Fm L0 L1 B { S with D:=D' }∧MetaD (6+4*pgs B) S.D D' (pgs B)∧Keep Fd w w'∧Grow w Fd Fd'∧Apart Fd' u.ownBlock.toList:=by
 obtain⟨c0,c1,c2,c3,c4,c5,c6,c7,c8,c9,c10,c11,c12,c13,c14,c15,c16,c17⟩:=ZD h.blk;obtain⟨A0,q0,rfl,_⟩:=JB h.l0;obtain⟨A1,q1,rfl,_⟩:=JB h.l1;have hslt:=h.blk.lt;have hpb:=(YC h.log.geom.pos h.log.geom.few);have hC0:=fun W (hk:Keep [] w W)=>ZS A0 (pgs B) q0 (S.lie0.map (fun(x:Nat)=>(x:Int))) W (by rw[← ZQ];exact(Rd.of_own h.l0).keep hk) (by omega);have hC1:=fun W (hk:Keep [] w W)=>ZS A1 (pgs B) q1 (S.lie1.map (fun(x:Nat)=>(x:Int))) W (by rw[← ZQ];exact(Rd.of_own h.l1).keep hk) (by omega)
 have hB:∀ W,Keep [] ((((w.alloc (.cells #[.pointer (some ⟨s,0,none⟩)] 34)).alloc (.cells #[.bool over] 4)).alloc (.cells #[.slice none 0 0] 22)).alloc (.cells #[.int .i64 0] 31)) W →
  Boxed W w.heap.size 34 (.pointer (some ⟨s,0,none⟩))∧Boxed W (w.heap.size+1) 4 (.bool over)∧Boxed W (w.heap.size+2) 22 (.slice none 0 0)∧Boxed W (w.heap.size+3) 31 (.int .i64 0)∧Keep [] w W∧w.heap.size+4≤W.heap.size:=by
  intro W hk;obtain⟨w1,hw1⟩:∃ x,x=w.alloc (.cells #[.pointer (some ⟨s,0,none⟩)] 34):=⟨_,rfl⟩;obtain⟨w2,hw2⟩:∃ x,x=w1.alloc (.cells #[.bool over] 4):=⟨_,rfl⟩;obtain⟨w3,hw3⟩:∃ x,x=w2.alloc (.cells #[.slice none 0 0] 22):=⟨_,rfl⟩;obtain⟨w4,hw4⟩:∃ x,x=w3.alloc (.cells #[.int .i64 0] 31):=⟨_,rfl⟩;rw[← hw1,← hw2,← hw3,← hw4] at hk;have s1:w1.heap.size=w.heap.size+1:=by rw[hw1,World.size_alloc]
  have s2:w2.heap.size=w.heap.size+2:=by rw[hw2,World.size_alloc,s1]
  have s3:w3.heap.size=w.heap.size+3:=by rw[hw3,World.size_alloc,s2]
  have s4:w4.heap.size=w.heap.size+4:=by rw[hw4,World.size_alloc,s3]
  have k1:Keep [] w w1:=by rw[hw1];exact(Keep.refl _ _).alloc _
  have k2:Keep [] w1 w2:=by rw[hw2];exact(Keep.refl _ _).alloc _
  have k3:Keep [] w2 w3:=by rw[hw3];exact(Keep.refl _ _).alloc _
  have k4:Keep [] w3 w4:=by rw[hw4];exact(Keep.refl _ _).alloc _
  refine⟨KA (by rw[hw1];exact Boxed.new w _ _) (((k2.trans0 k3).trans0 k4).trans0 hk) (by simp),KA (by rw[hw2,← s1];exact Boxed.new w1 _ _) ((k3.trans0 k4).trans0 hk) (by simp),KA (by rw[hw3,← s2];exact Boxed.new w2 _ _) (k4.trans0 hk) (by simp),
   KA (by rw[hw4,← s3];exact Boxed.new w3 _ _) hk (by simp),(((k1.trans0 k2).trans0 k3).trans0 k4).trans0 hk,by have:=hk.size;omega⟩
 clear c0 c2 c4 c5 c6 c7 c8 c9 c10 c11 c12 c13 c14 c15
 obtain⟨pt,Fp,l,ds,hTb,hDI,hPI,hrg,hsub,hdl⟩:∃ pt Fp l ds,PagedAt w base pt Fp l ds ∧
  (∀ W,Keep [] w W→Calls Tryz.prog 312 #[.pointer (some ⟨m,0,none⟩),.bool over] W fun e w'=>e=.returned (.func (.func 393) #[] #[.pointer (some ⟨W.heap.size,0,none⟩)])∧w'=W.alloc (.cells #[.pointer (some ⟨pt,0,none⟩)] 198)) ∧
  (∀ W,ImageAt W base m Fm S.I→∀ k<ds.length,Calls Tryz.prog 294 #[.pointer (some ⟨m,0,none⟩),.bool over,.int .i64 (k:Nat)] W fun e w'=>∃ u,e=.returned u∧w'.ownsRow W.heap.size 3 1 u (KS l k).length (VI (KS l k))∧Keep [] W w') ∧
  (∀ x∈l,-1≤x∧x<4096)∧(∀ x∈Fp,x∈Fm)∧ds.length=pgs B:=by
  have hbl:=h.blen;obtain⟨p1,p2,F1,F2,him⟩:=h.img;have hok:=him.ok;have hs1:=him.subB;have hs2:=him.subO
  have hp:∀ (q:Nat) (G:List Nat) (l:List Int) (ds:List Bool),PagedAt w base q G l ds→l.length=B→ds.length=pgs B:=fun q G l ds hq hl=>by
   obtain⟨L,U,hq⟩:=hq;rw[hq.pages,hl]
  cases over
  · exact⟨p1,F1,S.I.bl,S.I.bd,him.b,fun W hk=>by simpa using KAA W base m p1 p2 Fm F1 F2 S.I (him.keep0 hk) false,fun W hi k hk=>by simpa using Yt W base m Fm S.I hi false k (by simpa using hk),fun x hx=>by have:=hok.2.1 x hx;omega,hs1,hp _ _ _ _ him.b hbl⟩
  · exact⟨p2,F2,S.I.ol,S.I.od,him.o,fun W hk=>by simpa using KAA W base m p1 p2 Fm F1 F2 S.I (him.keep0 hk) true,fun W hi k hk=>by simpa using Yt W base m Fm S.I hi true k (by simpa using hk),fun x hx=>hok.2.2 x hx,hs2,hp _ _ _ _ him.o (hok.1.symm.trans hbl)⟩
 have hK4:Keep [] w ((((w.alloc (.cells #[.pointer (some ⟨s,0,none⟩)] 34)).alloc (.cells #[.bool over] 4)).alloc (.cells #[.slice none 0 0] 22)).alloc (.cells #[.int .i64 0] 31)):=((((Keep.refl [] w).alloc _).alloc _).alloc _).alloc _;have g16:=(World.cell?_of_block (a:=⟨s,16,none⟩) (hK4.block s hslt (by simp))).trans c16;clear hK4;refine(callsIn_wide (n:=3)).1 ?_;refine callsIn_of_wp_marks Tryz.func240 rfl trivial ?_ rfl;simp only[Tryz.ntmps240,List.size_toArray,List.length_cons,List.length_nil,Nat.reduceAdd,Nat.reduceSub,Array.replicate_succ,Array.replicate_zero,List.push_toArray,List.append_toArray,List.nil_append,List.cons_append];cases over
 case' false=>
  clear hC1
  gi_wp2_with (first
   | (refine⟨trivial,?_⟩;refine((callsIn_wide (n:=2)).2 (hC0 _ (((((Keep.refl [] w).alloc _).alloc _).alloc _).alloc _))).mono ?_;rintro e W1 ⟨V,rfl,hV,hk1⟩;clear hC0 c3 g16;(obtain⟨b2,b3,b4,b5,kW,hz⟩:=hB _ hk1);clear hB;(have hV4:=KB hV (base':=w.heap.size+4) (by simp only[World.size_alloc];omega));clear hV;(obtain⟨lg,lc,rfl,_⟩:=QD hV4 hpb.1);(have kA:Keep [] W1 (W1.alloc (.cells #[.slice (some ⟨lg,0,none⟩) (pgs B) lc] 22)):=(Keep.refl _ _).alloc _);(have b2':=KA b2 kA (by simp));(have b3':=KA b3 kA (by simp));(have e2:=b2'.cell);(have e3:=b3'.cell))
   | fail)
  have hlgm:=own_mem hV4 (g:=lg) (by simp[Value.ownBlock]);obtain⟨Wb,hWb⟩:∃ x,x=W1.alloc (.cells #[.slice (some ⟨lg,0,none⟩) (pgs B) lc] 22):=⟨_,rfl⟩;rw[← hWb] at kA b2' b3' e2 e3 ⊢;obtain⟨b6,hb6⟩:∃ x,x=W1.heap.size:=⟨_,rfl⟩;have q6:Boxed Wb b6 22 (.slice (some ⟨lg,0,none⟩) (pgs B) lc):=by rw[hWb,hb6];exact Boxed.new W1 _ _
  have hlie:=QB (KB hV4 (base':=w.heap.size) (by omega)) kA;rw[← ZQ] at hlie;have hb6l:w.heap.size+4≤b6:=by omega
  have b4':=KA b4 kA (by simp);have b5':=KA b5 kA (by simp);have kb:=kW.trans0 kA;have hlg4:=hlgm.1;rw[← hb6];have hlieS:=hl0;obtain⟨ov,hov⟩:∃ ov:Bool,ov=false:=⟨_,rfl⟩;rw[← hov] at b3';simp only[← hov] at hDI hPI;clear hWb hb6 kA hV4 hk1 kW hz b2 b3 b4 b5 hlgm hov e2 e3
 case' true=>
  gi_wp2_with (first
   | (refine⟨trivial,?_⟩;refine((callsIn_wide (n:=2)).2 (hC0 _ (((((Keep.refl [] w).alloc _).alloc _).alloc _).alloc _))).mono ?_;rintro e W1 ⟨V,rfl,hV,hk1⟩;clear hC0 c3 g16;(obtain⟨b2,b3,b4,b5,kW,hz⟩:=hB _ hk1);clear hB;(have hV4:=KB hV (base':=w.heap.size+4) (by simp only[World.size_alloc];omega));clear hV;(obtain⟨lg00,lc,rfl,_⟩:=QD hV4 hpb.1);(have kA:Keep [] W1 (W1.alloc (.cells #[.slice (some ⟨lg00,0,none⟩) (pgs B) lc] 22)):=(Keep.refl _ _).alloc _);(have b2':=KA b2 kA (by simp));(have b3':=KA b3 kA (by simp));(have e2:=b2'.cell);(have e3:=b3'.cell);(have kW2:=kW.trans0 kA);(obtain⟨_,_,_,_,_,_,_,_,_,_,_,_,_,_,_,_,_,g17⟩:=ZD (h.keep0 kW2).blk);(have q6':Boxed (W1.alloc (.cells #[.slice (some ⟨lg00,0,none⟩) (pgs B) lc] 22)) W1.heap.size 22 (.slice (some ⟨lg00,0,none⟩) (pgs B) lc):=Boxed.new W1 _ _);(have hz2:=kW2.size);(have hz3:=q6'.lt))
   | (refine⟨trivial,?_⟩;refine((callsIn_wide (n:=2)).2 (hC1 _ kW2)).mono ?_;rintro e W2 ⟨V2,rfl,hV2,hk2⟩;clear hC1 g17;(have q6:=KA q6' hk2 (by simp));(obtain⟨lg,lc,rfl,_⟩:=QD hV2 hpb.1);(have e6:=q6.cell);(have f6:=q6.frozen)))
  have hlgm:=own_mem hV2 (g:=lg) (by simp[Value.ownBlock]);have hz4:=q6.lt;obtain⟨b6,hb6⟩:∃ x,x=W1.heap.size:=⟨_,rfl⟩;rw[← hb6] at q6 hz hz3 hz4 ⊢;have kS:Keep [b6] W2 (W2.setCell ⟨b6,0,none⟩ (.slice (some ⟨lg,0,none⟩) (pgs B) lc)):=(Keep.refl _ _).setCell (p:=⟨b6,0,none⟩) (.inl (by simp)) _;have q6:=q6.set (.slice (some ⟨lg,0,none⟩) (pgs B) lc);have hlie:=own_set (o:=0) (KB hV2 (base':=w.heap.size) (by omega)) (b:=b6) (by simp[Value.ownBlock];omega) (.slice (some ⟨lg,0,none⟩) (pgs B) lc);rw[← ZQ] at hlie;have b2':=KA (KA b2' hk2 (by simp)) kS (by simp;omega);have b3':=KA (KA b3' hk2 (by simp)) kS (by simp;omega);have b4':=KA (KA (KA b4 kA (by simp)) hk2 (by simp)) kS (by simp;omega);have b5':=KA (KA (KA b5 kA (by simp)) hk2 (by simp)) kS (by simp;omega);have kb:Keep [] w (W2.setCell ⟨b6,0,none⟩ (.slice (some ⟨lg,0,none⟩) (pgs B) lc)):=(kW2.trans0 hk2).trans kS (fun x hx=>.inr (by simp at hx;omega));have hlg4:w.heap.size+4≤lg:=by omega
  have hb6l:w.heap.size+4≤b6:=by omega
  have hlieS:=hl1;obtain⟨Wb,hWb⟩:∃ x,x=W2.setCell ⟨b6,0,none⟩ (.slice (some ⟨lg,0,none⟩) (pgs B) lc):=⟨_,rfl⟩;rw[← hWb] at q6 hlie b2' b3' b4' b5' kb ⊢;obtain⟨ov,hov⟩:∃ ov:Bool,ov=true:=⟨_,rfl⟩;rw[← hov] at b3';simp only[← hov] at hDI hPI;clear hWb hb6 kA hV2 hV4 hk1 hk2 kS kW kW2 hz hz2 hz3 hz4 b2 b3 b4 b5 hlgm hov e2 e3 e6 f6 q6'
 all_goals
  obtain⟨_,_,_,g3,_,_,_,_,_,_,_,_,_,_,_,_,_,_⟩:=ZD (h.keep0 kb).blk;have e2:=b2'.cell;have e3:=b3'.cell;have hDI1:=hDI Wb.drew kb.drew;refine XF (wpIn_wide.2 ?_);refine ZT (fun W'=>W'.cell? ⟨w.heap.size,0,none⟩=some (.pointer (some ⟨s,0,none⟩))∧W'.cell? ⟨s,3,none⟩=some (.pointer (some ⟨m,0,none⟩))∧W'.cell? ⟨w.heap.size+1,0,none⟩=some (.bool ov)) 5 [[0,1,2,3,4]] ⟨e2,g3,e3⟩ ?_;simp only[PI]
  iterate 5 (refine ZH ?_;simp only[Act.put,PU])
  refine QC ?_
  go_wp2_with (refine hDI1.mono ?_;clear hDI1;rintro e W4 ⟨rfl,rfl⟩)
  gi_wp2
  obtain⟨Wc,hWc⟩:∃ x,x=(Wb.alloc (.cells #[.pointer (some ⟨pt,0,none⟩)] 198)).drew:=⟨_,rfl⟩;have hsc:Wc.heap.size=Wb.heap.size+1:=by rw[hWc];show (Wb.alloc _).heap.size=_;rw[World.size_alloc]
  have kc:Keep [] Wb Wc:=by rw[hWc];exact((Keep.refl _ _).alloc _).drew
  have bc:Boxed Wc Wb.heap.size 198 (.pointer (some ⟨pt,0,none⟩)):=by rw[hWc];exact KA (Boxed.new Wb _ _) (Keep.refl [] _).drew (by simp)
  rw[← hWc];have hseq:KAx 2 Tryz.prog 393 #[.pointer (some ⟨Wb.heap.size,0,none⟩)] (fun k=>#[.int .i64 (k:Nat)]) (QAr ds) (XAq base pt Wb.heap.size Fp l ds) (fun xs=>xs=YW ds ds.length) Wc:=QAf 2 Wb.heap.size base pt Fp l ds Wc (hTb.keep0 (kb.trans0 kc)) bc;have hlgl:=(own_mem hlie (g:=lg) (by simp[Value.ownBlock])).2;have h0:KPg w base d Fd B S.D (.pointer (some ⟨s,0,none⟩)) ov Wc.heap.size b6 lg lc [] Wc:=⟨⟨Fd,S.D,_,h.log.disk.keep0 (kb.trans0 kc),MetaD.refl _ _,fun x hx=>.inl hx,QB hlie kc,hlieS⟩,Nat.le_refl _,KA b2' kc (by simp),KA b3' kc (by simp),KA b4' kc (by simp),KA b5' kc (by simp),KA q6 kc (by simp),(kb.trans0 kc).zero⟩;have hq6l:=q6.lt;have hFlt:=h.log.disk.lt;have hszb:=kb.size;have HSC:=XC hsc;clear hWc kc e2 e3 g3 b2' b3' b4' b5' q6 hlie hlieS hsc bc
  refine Vg (n:=3) (gf:=393) (lb:=#[.pointer (some ⟨Wb.heap.size,0,none⟩)]) 7 (fun k=>.int .i64 (k:Nat)) rfl (enters_of Tryz.func393 (by kernel_rfl) rfl)
   hseq
   (fun A B C h k=>⟨fun hb=>k.1 (h.1 hb),fun hb=>k.2 (h.2 hb)⟩)
   (fun W l o o' hl hg' ho=>⟨fun hb=>ZC o' hb hg' ho,fun hb=>hb.putObj o' hg' ho⟩)
   (KPg w base d Fd B S.D (.pointer (some ⟨s,0,none⟩)) ov Wc.heap.size b6 lg lc) (fun s A B h hk=>h.kept hk) (fun s W l o o' h hl hg' ho=>h.turned (by have:=JA HSC;omega) hg' ho)
   (fun pre x W l o o' h hl hg' ho=>h) h0 ?assign ?body ?done
  case assign=>
   rintro l x W K hK;simp only[List.setIfInBounds_toArray,List.set_cons_zero,List.set_cons_succ,Nat.zero_add] at hK
   gi_wp2
   exact hK
  case body=>
   rintro lb pre k W hI ⟨hk,hpre,hdk⟩;obtain⟨Fd',D',lie,hD,hM,hFd,hlie,hli1⟩:=hI.st;have hsc:=JA HSC;have hIsz:=hI.size;have hnot:∀ x,w.heap.size≤x→x<Wc.heap.size→x∉Fd':=fun x h1 h2 hm=>(hFd x hm).elim (fun hm=>by have:=hFlt x hm;omega) (by omega);have n2:=hnot w.heap.size (by omega) (by omega);have n3:=hnot (w.heap.size+1) (by omega) (by omega);have n4:=hnot (w.heap.size+2) (by omega) (by omega);have n5:=hnot (w.heap.size+3) (by omega) (by omega);have n6:=hnot b6 (by omega) (by omega);have ng:=hnot lg (by omega) (by omega);have nc:=hnot Wb.heap.size (by omega) (by omega);have him:ImageAt W base m Fm S.I:=h.img.keep hI.keep (fun x hx hm=>h.apm x hx (by simp[hm]));have hge:GeomAt W g B:=h.log.geom.keep hI.keep h.log.gd;have hsb:=h.blk.keep hI.keep (fun hm=>h.aps (by simp[hm]));obtain⟨c0',c1',_,c3',_,_,_,_,_,_,_,_,_,_,_,_,_,_⟩:=ZD hsb;have hPg:=hPI W.drew (him.keep0 (Keep.refl _ _).drew) k hk;have hkB:k<pgs B:=by omega
   have hdl5:pgs B≤5:=hpb.2;have e2:=hI.b2.cell;have e3:=hI.b3.cell;have hpl:(KS l k).length≤15:=by rw[YN];omega
   have hpr:∀ z∈KS l k,-1≤z∧z<4096:=fun z hz=>hrg z (Js hz);have HPRE:=XC hpre;have HDK:=XC hdk;clear hpre hdk;generalize KS l k=zs at *;simp only[List.setIfInBounds_toArray,List.set_cons_zero,List.set_cons_succ];have HSZ:=XC hIsz;have HSC2:=XC hsc;clear hIsz hsc
   gi_wp2
   refine ZI (fun W'=>W'.cell? ⟨w.heap.size,0,none⟩=some (.pointer (some ⟨s,0,none⟩))∧W'.cell? ⟨s,3,none⟩=some (.pointer (some ⟨m,0,none⟩))∧W'.cell? ⟨w.heap.size+1,0,none⟩=some (.bool ov)) 12 [[0,1,2,3,4,5],[6],[7,8,9,10,11]] ⟨e2,c3',e3⟩ ?_;simp only[PI]
   iterate 6 (refine ZH ?_;simp only[Act.put,PU])
   refine ZB (by rfl) (fun K hK=>?_)
   go_wp2_with (refine hPg.mono ?_;clear hPg;rintro e W2 ⟨V,rfl,hV,hk2⟩;obtain⟨PA,pc,rfl,_⟩:=JB hV)
   have kD2:Keep [] W W2:=(Keep.refl _ _).drew.trans0 hk2;have hPE:=Xt PA zs.length pc zs W2 (Rd.of_own hV) hpr hpl;refine hK _ _ (⟨(KA hI.b2 kD2 (by simp)).cell,(World.cell?_of_block (a:=⟨s,3,none⟩) (kD2.block s hsb.lt (by simp))).trans c3',(KA hI.b3 kD2 (by simp)).cell⟩) ?_;clear hK K
   try simp only[Act.put,PU]
   refine ZB (by rfl) (fun K hK=>?_)
   go_wp2_with (refine hPE.mono ?_;clear hPE;rintro e W3 ⟨u,bs,rfl,hbl,hu,hk3⟩;obtain⟨ug,uc,rfl,_⟩:=QD hu (by omega))
   have kD3:Keep [] W W3:=kD2.trans0 hk3;refine hK _ _ (⟨(KA hI.b2 kD3 (by simp)).cell,(World.cell?_of_block (a:=⟨s,3,none⟩) (kD3.block s hsb.lt (by simp))).trans c3',(KA hI.b3 kD3 (by simp)).cell⟩) ?_;clear hK K
   try simp only[Act.put,PU]
   iterate 4 (refine ZH ?_;simp only[Act.put,PU])
   refine QC ?_
   go_wp2
   gi_wp2
   have hll:lie.length=pgs B:=by have:=hlie.1;simpa [QH] using this
   obtain⟨x,hx⟩:∃ x,lie[k]? = some x:=⟨_,List.getElem?_eq_getElem (by omega)⟩;have hx1:x≤1:=hli1 x (List.mem_of_getElem? hx);obtain⟨y,hy⟩:∃ y,y=1-x:=⟨_,rfl⟩;have hxy:(1:Int)-(x:Nat)=(y:Nat):=by omega
   have hy1:y≤1:=by omega
   have hl3:=QB hlie kD3;have eg:=JI hl3 (i:=k) (u:=.int .i64 (x:Nat)) (by simp[QH,hx]);have e6:=(KA hI.b6 kD3 (by simp)).cell;have f6:=ZO (QB hl3 (Keep.refl [] W3).drew) k;have hxI:((x:Nat):Int)≤1:=by omega
   have hkI:((k:Nat):Int)<(pgs B:Nat):=by omega
   have HX:=XC hx;have HY:=XC hy;have HLL:=XC hll;clear hx hy hll hx1 e2 e3;refine ZI (fun W'=>W'.cell? ⟨b6,0,none⟩=some (.slice (some ⟨lg,0,none⟩) (pgs B) lc)∧W'.cell? ⟨lg,k,none⟩=some (.int .i64 (x:Nat))) 7 [[0,1,2,3,4,5,6]] ⟨e6,eg⟩ ?_;simp only[PI]
   iterate 7 (refine ZH ?_;simp only[Act.put,PU])
   refine QC ?_
   go_wp2_with fail
   gi_wp2
   have hgb:lg≠b6:=fun e=>hI.b6.not_row (by decide) hlie (by simp[Value.ownBlock,e]);have hgl:=h.log.geom.lt;have kS:Keep [lg] W3 ((W3.setCell ⟨lg,k,none⟩ (.int .i64 (y:Nat))).drew):=((Keep.refl _ _).setCell (p:=⟨lg,k,none⟩) (.inl (by simp)) _).drew;have hl5:=QB (Zc hl3 k (.int .i64 (y:Nat))) (Keep.refl [] _).drew;rw[show (QH lie).set k (.int .i64 (y:Nat))=QH (lie.set k y) by simp[QH,List.map_set]] at hl5;obtain⟨W5,hW5⟩:∃ x,x=(W3.setCell ⟨lg,k,none⟩ (.int .i64 (y:Nat))).drew:=⟨_,rfl⟩;rw[← hW5] at kS hl5 ⊢;have k5:Keep [lg] W W5:=kD3.zero.trans kS (fun x hx=>.inl hx);have x2:=KA hI.b2 k5 (by simp;omega);have x3:=KA hI.b3 k5 (by simp;omega);have x4:=KA hI.b4 k5 (by simp;omega);have x5:=KA hI.b5 k5 (by simp;omega);have x6:=KA hI.b6 k5 (by simp;omega);have hD5:=hD.keep k5 (fun x hx hm=>by simp at hm;subst hm;exact ng hx);have hge5:=hge.keep k5 (by simp;omega);have hsb5:=hsb.keep k5 (by simp;omega);obtain⟨y0,y1,_,_,_,_,_,_,_,_,_,_,_,_,_,_,_,_⟩:=ZD hsb5;have eg5:=JI hl5 (i:=k) (u:=.int .i64 (y:Nat)) (by simp[QH,JA HLL,hkB])
   have hSf:∀ V,Keep [] W5 V→V.cell? ⟨w.heap.size,0,none⟩=some (.pointer (some ⟨s,0,none⟩))∧V.cell? ⟨s,0,none⟩=some (.pointer (some ⟨d,0,none⟩))∧V.cell? ⟨s,1,none⟩=some (.pointer (some ⟨g,0,none⟩))∧V.cell? ⟨w.heap.size+1,0,none⟩=some (.bool ov)∧V.cell? ⟨b6,0,none⟩=some (.slice (some ⟨lg,0,none⟩) (pgs B) lc)∧V.cell? ⟨lg,k,none⟩=some (.int .i64 (y:Nat)):=by
    intro V hk;obtain⟨y0,y1,_,_,_,_,_,_,_,_,_,_,_,_,_,_,_,_⟩:=ZD (hsb5.keep0 hk);exact⟨(KA x2 hk (by simp)).cell,y0,y1,(KA x3 hk (by simp)).cell,(KA x6 hk (by simp)).cell,JI (QB hl5 hk) (by simp[QH,JA HLL,hkB])⟩
   have hPG:=Qi W5.drew g B (hge5.keep0 (Keep.refl _ _).drew) ov k y hy1 hkB;obtain⟨z,hz⟩:∃ z,z=6+2*(k+(if ov then pgs B else 0))+y:=⟨_,rfl⟩;have hzl:z<6+4*pgs B:=by rw[hz];split <;> omega
   rw[← hz] at hPG
   have hprel:pre.length≤5:=by
    rw[JA HPRE];have:(YW ds k).length≤k:=by unfold YW;exact Nat.le_trans (List.length_filter_le _ _) (by simp)
    omega
   have hMa:=hM.acts;have hMn:=hM.n;have hmany:=h.log.many;have hugm:=own_mem hu (g:=ug) (by simp[Value.ownBlock]);have hu5:=XB hu kS (fun x hx=>by simp[Value.ownBlock] at hx;subst hx;simp;have:=hI.size;have:=JA HSC;have:=kD2.size;omega);have hWr:=fun V (hkv:Keep [] W5 V)=>KX V base d Fd' D' (hD5.keep0 hkv) (hM.off.trans h.log.off) (hM.fuse.trans h.log.fuse) (by omega) z (by omega) (some ⟨ug,0,none⟩) uc bs (Rd.of_own (QB hu5 hkv)) (fun a ha' hm=>by cases ha';have h1:=hD.lt _ hm;have h2:=kD2.size;have h3:=hugm.1;simp only at h1;omega) (by have:=hkv.size;have:=k5.size;have:=hI.keep.size;have:=h.log.le;omega);have HM:=XC hM;have HZ:=XC hz;have HSF:=XC hSf;clear hM hz hSf hW5 eg e6 f6 hMa hMn hmany;refine ZI (fun V=>V.cell? ⟨w.heap.size,0,none⟩=some (.pointer (some ⟨s,0,none⟩))∧V.cell? ⟨s,0,none⟩=some (.pointer (some ⟨d,0,none⟩))∧V.cell? ⟨s,1,none⟩=some (.pointer (some ⟨g,0,none⟩))∧V.cell? ⟨w.heap.size+1,0,none⟩=some (.bool ov)∧V.cell? ⟨b6,0,none⟩=some (.slice (some ⟨lg,0,none⟩) (pgs B) lc)∧V.cell? ⟨lg,k,none⟩=some (.int .i64 (y:Nat))) 16 [[0,1,2,3,4,5,6,7,8,9,10,11,12,13,15],[14]] (JA HSF W5.drew (Keep.refl _ _).drew) ?_;simp only[PI]
   iterate 15 (refine ZH ?_;simp only[Act.put,PU])
   refine ZB (by rfl) (fun K hK=>?_)
   go_wp2_with (refine hPG.mono ?_;clear hPG;rintro e W6 ⟨rfl,hk6⟩)
   have k56:Keep [] W5 W6:=(Keep.refl _ _).drew.trans0 hk6;refine hK _ _ ((JA HSF W6 k56)) ?_;clear hK K
   try simp only[Act.put,PU]
   refine QC ?_;have hT:=hWr W6 k56
   go_wp2_with (refine hT.mono ?_;clear hT;rintro e W7 ⟨rfl,F7,hD7,hk7,hg7⟩)
   gi_wp2
   have hsc:=JA HSC;have hN:=JA HSZ;have hIW:=hI.keep.size;have hK:Keep (lg :: Fd') W W7:=((k5.sub (m:=lg :: Fd') (by simp)).trans k56.zero (fun x hx=>.inl hx)).trans (hk7.sub (fun x hx=>List.mem_cons_of_mem _ hx)) (fun x hx=>.inl hx);have k57:Keep Fd' W5 W7:=k56.zero.trans hk7 (fun x hx=>.inl hx);refine⟨hK.fromCells ?_ _,⟨fun hb=>KA hb hK ?_,fun hb=>hb.keep hK ?_⟩,⟨⟨F7,D'.write z bs,lie.set k y,hD7,?_,?_,XB hl5 k57 (fun x hx=>by simp[Value.ownBlock] at hx;subst hx;exact ng),?_⟩,Nat.le_trans hN hK.size,KA x2 k57 n2,KA x3 k57 n3,KA x4 k57 n4,KA x5 k57 n5,KA x6 k57 n6,hI.keep.trans hK ?_⟩⟩
   · intro b hb o ho
     rcases List.mem_cons.1 hb with rfl | hb
     · exact KO hlie _ (by simp[Value.ownBlock]) o ho
     · exact hD.cells b hb o ho
   · simp only[List.mem_cons,not_or]
     exact⟨by omega,nc⟩
   · intro x hx hm
     have h1:=h.img.lt x (hsub x hx);rcases List.mem_cons.1 hm with e | hm
     · omega
     · exact(hFd x hm).elim (fun hm=>h.apm x (hsub x hx) (by simp[hm])) (by omega)
   · rw[List.length_append,List.length_singleton]
     exact(JA HM).trans (MetaD.write hzl (by rw[(JA HM).n,h.log.many];omega) hbl)
   · intro x hx
     rcases hg7 x hx with hx | hx
     · exact hFd x hx
     · have:=k5.size;have:=k56.size;exact .inr (by omega)
   · intro x hx
     rcases List.mem_or_eq_of_mem_set hx with hx | rfl
     · exact hli1 x hx
     · exact hy1
   · intro x hx
     rcases List.mem_cons.1 hx with rfl | hx
     · exact .inr (by omega)
     · exact(hFd x hx).imp id (by omega)
  case done=>
   intro D'' xs W hD'' hS hI hdef;obtain⟨Fd',D',lie,hD,hM,hFd,hlie,hli1⟩:=hI.st;have hsc:=JA HSC;have e4:=hI.b4.cell;have f4:=hI.b4.frozen;have e5:=hI.b5.cell;have f5:=hI.b5.frozen;have e6:=hI.b6.cell;have HI:=XC hI;have HS:=XC hS;have HM:=XC hM;clear h0 hseq hI hS hM
   gi_wp2
   have hI:=JA HI;have hM:=JA HM;have hsz:=hI.size;have ng:lg∉Fd':=fun hm=>(hFd lg hm).elim (fun hm=>by have:=hFlt lg hm;omega) (by omega);have k4:Keep [w.heap.size+2] W (W.setCell ⟨w.heap.size+2,0,none⟩ (.slice (some ⟨lg,0,none⟩) (pgs B) lc)):=(Keep.refl _ _).setCell (p:=⟨w.heap.size+2,0,none⟩) (.inl (by simp)) _;have z4:=hI.b4.set (.slice (some ⟨lg,0,none⟩) (pgs B) lc);have z5:=KA hI.b5 k4 (by simp);have zl:=own_set (o:=0) hlie (b:=w.heap.size+2) (by simp[Value.ownBlock];omega) (.slice (some ⟨lg,0,none⟩) (pgs B) lc);obtain⟨W8,hW8⟩:∃ x,x=W.setCell ⟨w.heap.size+2,0,none⟩ (.slice (some ⟨lg,0,none⟩) (pgs B) lc):=⟨_,rfl⟩;rw[show w.heap.size+1+1=w.heap.size+2 by omega,show w.heap.size+2+1=w.heap.size+3 by omega];rw[← hW8] at k4 z4 z5 zl ⊢;have k5:Keep [w.heap.size+3] W8 (W8.setCell ⟨w.heap.size+3,0,none⟩ (.int .i64 0)):=(Keep.refl _ _).setCell (p:=⟨w.heap.size+3,0,none⟩) (.inl (by simp)) _;have z4:=KA z4 k5 (by simp);have z5:=z5.set (.int .i64 0);have zl:=own_set (o:=0) zl (b:=w.heap.size+3) (by simp[Value.ownBlock];omega) (.int .i64 0);obtain⟨W9,hW9⟩:∃ x,x=W8.setCell ⟨w.heap.size+3,0,none⟩ (.int .i64 0):=⟨_,rfl⟩;rw[← hW9] at k5 z4 z5 zl ⊢;have k45:Keep [w.heap.size+2,w.heap.size+3] W W9:=(k4.sub (by simp)).trans k5 (fun x hx=>.inl (by simp at hx;simp[hx]));have hd4:=(k45.block D'' (Array.getElem?_eq_some_iff.1 hdef).1 (by simp;omega)).trans hdef;have y4:=(ZC (.deferred none) z4 hd4 rfl).cell;have y5:=(ZC (.deferred none) z5 hd4 rfl).cell;have hkw:=(hI.keep.trans k45 (fun x hx=>.inr (by simp at hx;omega))).putObj (g:=D'') (by omega) (.deferred none);have hD9:=(hD.keep k45 (fun x hx hm=>by have:=hFd x hx;simp at hm;exact this.elim (fun h=>by have:=hFlt x h;omega) (by omega))).putObj (.deferred none) hd4 rfl;have hgr:Grow w Fd Fd':=fun x hx=>(hFd x hx).imp id (by omega);have hlog:=h.log.setDisk hD9 hkw hgr hM.off hM.fuse hM.n;have hst:=(h.setLog hlog (hkw.sub (fun x hx=>by simp[hx])) hgr (fun x hx=>.inl hx)).1
   have hlen:xs.length≤pgs B:=by
    rw[JA HS,← hdl];unfold YW;exact Nat.le_trans (List.length_filter_le _ _) (by simp)
   refine⟨by simp,.inl ⟨_,_,rfl,run_takeDeferred hd4,?_⟩⟩;refine⟨.tuple #[.slice (some ⟨lg,0,none⟩) (pgs B) lc,.int .i64 0],?_,_,lie,Fd',D',rfl,ownsRow_putObj zl (.deferred none) hd4 rfl,hli1,hst,hM.mono hlen,hkw,hgr,fun x hx hm=>by simp[Value.ownBlock] at hm;subst hm;exact ng hx⟩;simp[results,Tryz.results240,go_sem,y4,y5]
end
section
open Go.RowKit Go.Shelf
theorem MetaD.lay {lo:Nat} {D:PDisk} {a q:Nat} {bs:List UInt8} (hl:lo≤D.n) (hb:bs.length=64*q) (hk:a+q≤lo):∀ j≤q,MetaD lo D (Ka D a bs j) j:=by
 intro j
 induction j with
 | zero=>exact fun _=>MetaD.refl _ _
 | succ j ih=>
   intro hj;have h:=ih (by omega);rw[ZW];exact h.trans (MetaD.write (by omega) (by rw[h.n];exact hl) (length_seg 64 bs j (by omega)))
theorem JAi (w:World) (base s d g t p m:Nat) (Fd Ft Fw Fm:List Nat) (L0 L1:Value) (B:Nat) (S:PS) (h:StoreIs w base s d g t p m Fd Ft Fw Fm L0 L1 B S)
 (hmay:PReg.May ⟨S.st.gen+1,S.st.view,S.st.mode,S.st.epoch,S.st.seq,S.st.done,S.W.pos⟩) (hus:ZN (ZP S.us S.lv 8) S.W.pos.seg) (hs:S.slot≤1) (ha:S.D.acts≤2000000)
 (A0 A1:Option Addr) (q0 q1:Nat) (l0 l1:List Nat) (hr0:Rd w A0 (pgs B) (QH l0)) (hr1:Rd w A1 (pgs B) (QH l1)) (hl0:∀ x∈l0,x≤1) (hl1:∀ x∈l1,x≤1) :
 Calls Tryz.prog 241 #[.pointer (some ⟨s,0,none⟩),.agg #[.slice A0 (pgs B) q0,.slice A1 (pgs B) q1]] w fun e w'=>e=.returned (.int .i64 0)∧∃ Fd' D',
  StoreIs w' base s d g t p m Fd' Ft Fw Fm L0 L1 B { S with D:=D' }∧MetaD (6+4*pgs B) S.D D' 3∧Keep Fd w w'∧Grow w Fd Fd':=by
 obtain⟨⟨mode,view,epoch,seq,done,mount,gen⟩,hst⟩:∃ st,st=S.st:=⟨_,rfl⟩;obtain⟨⟨pseg,poff,plsn,pprev,pmount⟩,hpos⟩:∃ P,P=S.W.pos:=⟨_,rfl⟩;have hblk:=h.blk;rw[← hst] at hblk hmay;rw[← hpos] at hmay hus;obtain⟨c0,c1,c2,c3,c4,c5,c6,c7,c8,c9,c10,c11,c12,c13,c14,c15,c16,c17⟩:=ZD hblk;simp only at c5 c6 c7 c8 c9 c11 hmay;have hslt:=hblk.lt;have k1:Keep [] w (w.alloc (.cells #[.slice A0 (pgs B) q0,.slice A1 (pgs B) q1] 106)):=(Keep.refl _ _).alloc _;have hb:=Blk.new w 106 #[.slice A0 (pgs B) q0,.slice A1 (pgs B) q1]
 have hSf:∀ V,Keep [] (w.alloc (.cells #[.slice A0 (pgs B) q0,.slice A1 (pgs B) q1] 106)) V→V.cell? ⟨s,1,none⟩=some (.pointer (some ⟨g,0,none⟩))∧V.cell? ⟨s,2,none⟩=some (.pointer (some ⟨t,0,none⟩))∧V.cell? ⟨s,4,none⟩=some (.pointer (some ⟨p,0,none⟩)) ∧
  V.cell? ⟨s,5,none⟩=some (.int .i64 mode)∧V.cell? ⟨s,6,none⟩=some (.int .i64 view)∧V.cell? ⟨s,7,none⟩=some (.int .i64 epoch)∧V.cell? ⟨s,8,none⟩=some (.int .i64 seq)∧V.cell? ⟨s,9,none⟩=some (.int .i64 done)∧V.cell? ⟨s,11,none⟩=some (.int .i64 gen) ∧
  V.cell? ⟨w.heap.size,0,none⟩=some (.slice A0 (pgs B) q0)∧V.cell? ⟨w.heap.size,1,none⟩=some (.slice A1 (pgs B) q1):=by
  intro V hk;obtain⟨_,c1,c2,_,c4,c5,c6,c7,c8,c9,_,c11,_,_,_,_,_,_⟩:=ZD (hblk.keep0 (k1.trans0 hk));have hb2:=hb.keep0 hk;exact⟨c1,c2,c4,c5,c6,c7,c8,c9,c11,by simpa using hb2.cell 0,by simpa using hb2.cell 1⟩
 have hgI:((gen:Nat):Int)+1≤2147483647:=by have:=hmay.1.2;simp only at this;omega
 obtain⟨I0,B0,ls0,hwi⟩:=h.log.wri
 have hPos:∀ V,Keep [] w V→Calls Tryz.prog 214 #[.pointer (some ⟨p,0,none⟩)] V fun e w'=>e=.returned (.agg #[.int .i64 pseg,.int .i64 poff,.int .i64 plsn,.int .i64 pprev,.int .i64 pmount])∧Keep [] V w':=by
  intro V hk;have h1:=hwi.blk.keep0 hk;rw[← hpos] at h1;exact JAX V p _ _ _ _ _ ⟨pseg,poff,plsn,pprev,pmount⟩ h1
 have hUse:=fun V (hk:Keep [] w V)=>YAT V base t g Ft S.us S.lv (h.log.tab.keep0 hk);have hgeo:=fun V (hk:Keep [] w V)=>h.log.geom.keep0 hk;have HM:=XC hmay;have HST:=XC hst;have HPOS:=XC hpos;have HB:=XC hblk;clear hmay hst hpos hblk c0 c1 c2 c3 c4 c5 c6 c7 c8 c9 c10 c11 c12 c13 c14 c15 c16 c17 hb
 go_enter Tryz.func241,Tryz.ntmps241
 go_wp2
 have HSF:=XC hSf;clear hSf;refine ZT (fun V=>V.cell? ⟨s,1,none⟩=some (.pointer (some ⟨g,0,none⟩))∧V.cell? ⟨s,2,none⟩=some (.pointer (some ⟨t,0,none⟩))∧V.cell? ⟨s,4,none⟩=some (.pointer (some ⟨p,0,none⟩))∧V.cell? ⟨s,5,none⟩=some (.int .i64 mode)∧V.cell? ⟨s,6,none⟩=some (.int .i64 view)∧V.cell? ⟨s,7,none⟩=some (.int .i64 epoch)∧V.cell? ⟨s,8,none⟩=some (.int .i64 seq)∧V.cell? ⟨s,9,none⟩=some (.int .i64 done)∧V.cell? ⟨s,11,none⟩=some (.int .i64 gen)∧V.cell? ⟨w.heap.size,0,none⟩=some (.slice A0 (pgs B) q0)∧V.cell? ⟨w.heap.size,1,none⟩=some (.slice A1 (pgs B) q1)) 55 [[0,1,2,3,4,5,6,7,8,9,10,11,12,13,14,15,16,17,18,19,20,21,22,23,24,25,26,27,28,29,30,31,32,33,34,35,36,37,38,40,41,42,43,44,45,46,47],[39],[48,49],[50,51,52,53,54]] (JA HSF _ (Keep.refl _ _).drew) ?_;simp only[PI]
 iterate 47 (refine ZH ?_;simp only[Act.put,PU])
 refine ZB (by rfl) (fun K hK=>?_);have kd:=(k1.trans0 (Keep.refl [] _).drew)
 go_wp2_with (refine(hPos _ kd).mono ?_;clear hPos;rintro e w2 ⟨rfl,hk2⟩)
 have kd2:=(Keep.refl [] _).drew.trans0 hk2;refine hK _ _ ((JA HSF w2 kd2)) ?_;clear hK K
 try simp only[Act.put,PU]
 refine ZB (by rfl) (fun K hK=>?_)
 go_wp2_with (refine(hUse _ (k1.trans0 kd2)).mono ?_;clear hUse;rintro e w3 ⟨ug,uc,rfl,huc,hu,hk3⟩)
 have kd3:=kd2.trans0 hk3;refine hK _ _ ((JA HSF w3 kd3)) ?_;clear hK K
 try simp only[Act.put,PU]
 iterate 1 (refine ZH ?_;simp only[Act.put,PU])
 refine ZB (by rfl) (fun K hK=>?_);have kw3:Keep [] w w3:=k1.trans0 kd3
 have hRE:Calls Tryz.prog 175 #[.pointer (some ⟨g,0,none⟩),.agg #[.int .i64 (((gen:Nat):Int)+1),.int .i64 (view:Nat),.int .i64 (mode:Nat),.int .i64 (epoch:Nat),.int .i64 (seq:Nat),.int .i64 (done:Nat),.int .i64 (pseg:Nat),.int .i64 (poff:Nat),.int .i64 (plsn:Nat),.int .i64 (pprev:Nat),.int .i64 (pmount:Nat),.slice A0 (pgs B) q0,.slice A1 (pgs B) q1,.slice (some ⟨ug,0,none⟩) 8 uc]] w3
  fun e w'=>∃ u bs,e=.returned (.tuple #[u,.int .i64 0])∧bs.length=128∧w'.ownsRow w3.heap.size 5 1 u 128 (bys bs)∧Keep [] w3 w':=
  JAb w3 g B (hgeo w3 kw3) _ (JA HM) A0 q0 l0 A1 q1 l1 (hr0.keep kw3) (hr1.keep kw3) hl0 hl1 ug uc (ZP S.us S.lv 8) (Rd.of_ownN hu) hus
 go_wp2_with (refine hRE.mono ?_;clear hRE;rintro e w4 ⟨V4,bs,rfl,hbl,hu4,hk4⟩;obtain⟨u4,uc4,rfl,huc4⟩:=KF hu4 (by omega))
 have kd4:=kd3.trans0 hk4;refine hK _ _ ((JA HSF w4 kd4)) ?_;clear hK K
 try simp only[Act.put,PU]
 iterate 4 (refine ZH ?_;simp only[Act.put,PU])
 refine QC ?_
 go_wp2
 have kw4:Keep [] w w4:=kw3.trans0 hk4;obtain⟨x0,x1,_,_,_,_,_,_,_,_,_,_,_,_,_,x15,_,_⟩:=ZD (h.blk.keep0 kw4);obtain⟨sl,hsl⟩:∃ sl:Nat,(1:Int)-(S.slot:Nat)=(sl:Nat)∧sl≤1:=⟨1-S.slot,by omega,by omega⟩;obtain⟨hsy,hsl1⟩:=hsl;have hsI:((S.slot:Nat):Int)≤1:=by omega
 obtain⟨az,haz⟩:∃ az,az=2+2*sl:=⟨_,rfl⟩;have hRG:=fun V (hk:Keep [] w V)=>VN V g B (hgeo V hk) sl hsl1;simp only[← haz] at hRG;have hgB:=h.log.geom;have hpb:=YC hgB.pos hgB.few;have hmany:=h.log.many;have hLm:=MetaD.lay (lo:=6+4*pgs B) (D:=S.D) (a:=az) (q:=2) (bs:=bs) (by omega) hbl (by omega) 2 (Nat.le_refl _);have hug4:=own_mem hu4 (g:=u4) (by simp[Value.ownBlock]);have hFlt:=h.log.disk.lt;have hLy:=fun V (hk:Keep [] w4 V)=>KAb V base d Fd S.D (h.log.disk.keep0 (kw4.trans0 hk)) h.log.off h.log.fuse (by have:=hk.size;have:=kw4.size;have:=h.log.le;omega) az 2 u4 0 uc4 bs (by omega) (by omega) hbl huc4 (by omega) (by omega) (Rd.of_own (QB hu4 hk)) (by have:=hk.size;omega) (fun hm=>by have:=hFlt _ hm;have:=kw3.size;omega);simp only[Nat.reduceMul] at hLy;have HAZ:=XC haz;clear haz;refine ZT (fun V=>V.cell? ⟨s,0,none⟩=some (.pointer (some ⟨d,0,none⟩))∧V.cell? ⟨s,1,none⟩=some (.pointer (some ⟨g,0,none⟩))∧V.cell? ⟨s,15,none⟩=some (.int .i64 (S.slot:Nat))) 15 [[0,1,2,3,4,5,6,7,8,9,10,11,12,14],[13]] ⟨x0,x1,x15⟩ ?_;simp only[PI]
 iterate 14 (refine ZH ?_;simp only[Act.put,PU])
 refine ZB (by rfl) (fun K hK=>?_);have kd5:Keep [] w4 w4.drew:=(Keep.refl _ _).drew
 go_wp2_with (refine(hRG _ (kw4.trans0 kd5)).mono ?_;clear hRG;rintro e w5 ⟨rfl,rfl⟩)
 refine hK _ _ (⟨x0,x1,x15⟩) ?_;clear hK K
 try simp only[Act.put,PU]
 refine QC ?_
 go_wp2_with fail
 have hLy5:=hLy _ kd5;clear hLy;refine hLy5.mono ?_;clear hLy5;rintro e w6 ⟨rfl,F6,hD6,hk6,hg6⟩;have kw6:Keep Fd w w6:=(kw4.trans0 kd5).zero.trans hk6 (fun x hx=>.inl hx);have hsF:s∉Fd:=fun hm=>h.aps (by simp[hm]);have hg6':Grow w Fd F6:=fun x hx=>(hg6 x hx).imp id (fun h'=>by have h2:w4.heap.size≤x:=h';have:=kw4.size;omega);obtain⟨x0',_,_,_,_,_,_,_,_,_,_,_,_,_,_,_,_,_⟩:=ZD (h.blk.keep kw6 hsF);have hMa:=hLm.acts;have hFl:=Qc w6 base d F6 _ hD6 (hLm.off.trans h.log.off) (hLm.fuse.trans h.log.fuse) (by omega) (by have:=kw6.size;have:=h.log.le;omega);clear hu4 hk4 hu hk3 hk2 x0 x1 x15 hgeo
 go_wp2_with (refine hFl.mono ?_;clear hFl;rintro e w7 ⟨rfl,F7,hD7,hk7,hg7⟩)
 go_ret;have kw7:Keep Fd w w7:=kw6.trans hk7 hg6';have hgr7:Grow w Fd F7:=fun x hx=>(hg7 x hx).elim (hg6' x) (fun h'=>.inr (Nat.le_trans kw6.size h'));have hM3:=hLm.trans (MetaD.flush (6+4*pgs B) (Ka S.D az bs 2));have hlog:=h.log.setDisk hD7 kw7 hgr7 hM3.off hM3.fuse hM3.n;exact⟨rfl,F7,_,(h.setLog hlog (kw7.sub (fun x hx=>by simp[hx])) hgr7 (fun x hx=>.inl hx)).1,hM3,kw7,hgr7⟩
end
end Go.Proofs.YtkonbpfbjiepfaaGreat
