/- Lemmas of the proof, with their conditions. -/
import Derived.Test.YthgphmfipnjllaaGreatV09
import Derived.Test.YthgphmfipnjllaaGreatV06
namespace Go.Proofs.YthgphmfipnjllaaGreat
set_option linter.unusedSimpArgs false
set_option linter.unusedVariables false
set_option maxHeartbeats 4000000
set_option maxRecDepth 100000
section
open Go.RowKit Go.Shelf
attribute [local go_sem] Oper.semAt_some
theorem KK {w:World} {base:Nat} {e:TypeId} {v:Value} {n s:Nat} {xs:List Value} (h:w.ownsRow base e s v n xs):∀ g∈v.ownBlock.toList,∀ o,w.heap[g]? = some o→o.isCells=true:=by
 intro g hg o ho
 rcases h.2 with⟨rfl,_⟩ | ⟨g',cap,cur,rfl,_,hgb,_⟩
 · simp[Value.ownBlock] at hg
 · obtain rfl:g'=g:=by simpa [Value.ownBlock,eq_comm] using hg
   rw[hgb] at ho;cases ho;rfl
theorem Keep.fromCells {l:List Nat} {W W':World} (h:Keep l W W') (hl:∀ g∈l,∀ o,W.heap[g]? = some o→o.isCells=true) (B:Nat):KeepsFrom B W W':=
 ⟨h.size,fun k o _ hk ho=>(h.block k (Array.getElem?_eq_some_iff.1 hk).1 (fun hm=>by rw[hl k hm o hk] at ho;cases ho)).trans hk⟩
theorem JA {W W':World} {B:Nat} {t:TypeId} {v:Value} {l:List Nat} (h:Boxed W B t v) (hk:Keep l W W') (hB:B∉l):Boxed W' B t v:=(hk.block B h.lt hB).trans h
theorem XC {W:World} {B l:Nat} {t:TypeId} {v:Value} {o:Obj} (o':Obj) (h:Boxed W B t v) (hl:W.heap[l]? = some o) (ho:o.isCells=false):Boxed (W.putObj l o') B t v:=by
 refine(World.putObj_heap_other ?_).trans h
 rintro rfl
 rw[show W.heap[B]? = _ from h] at hl;cases hl;cases ho
theorem Keep.putObj {l:List Nat} {w W:World} (h:Keep l w W) {g:Nat} (hg:w.heap.size≤g) (o':Obj):Keep l w (W.putObj g o'):=
 ⟨h.os,h.tape,h.output,by rw[World.putObj_size];exact h.size,fun k hk hn=>(World.putObj_heap_other (by omega)).trans (h.block k hk hn)⟩
theorem JG {W:World} {b l:Nat} {t:TypeId} {cs:Array Value} {o:Obj} (o':Obj) (h:Blk W b t cs) (hl:W.heap[l]? = some o) (ho:o.isCells=false):Blk (W.putObj l o') b t cs:=by
 refine(World.putObj_heap_other ?_).trans h
 rintro rfl
 rw[show W.heap[b]? = _ from h] at hl;cases hl;cases ho
theorem DiskAt.putObj {W:World} {base d l:Nat} {F:List Nat} {D:PDisk} {o:Obj} (h:DiskAt W base d F D) (o':Obj) (hl:W.heap[l]? = some o) (ho:o.isCells=false):DiskAt (W.putObj l o') base d F D:=by
 obtain⟨S,N,H,U,h⟩:=h
 exact⟨S,N,H,U,JG o' h.blk hl ho,ownsRow_putObj h.safe o' hl ho,ownsRow_putObj h.now o' hl ho,ownsRow_putObj h.held o' hl ho,ownsRow_putObj h.flt o' hl ho,h.ne,h.foot,h.base,h.pos,h.few,h.ats,h.acts⟩
theorem DiskAt.cells {W:World} {base d:Nat} {F:List Nat} {D:PDisk} (h:DiskAt W base d F D):∀ g∈F,∀ o,W.heap[g]? = some o→o.isCells=true:=by
 obtain⟨S,N,H,U,h⟩:=h
 intro g hg o ho
 rw[h.foot] at hg
 simp only[List.mem_cons,List.mem_append] at hg
 rcases hg with rfl | hg | hg | hg | hg
 · rw[show W.heap[_]? = _ from h.blk] at ho;cases ho;rfl
 · exact KK h.safe g hg o ho
 · exact KK h.now g hg o ho
 · exact KK h.held g hg o ho
 · exact KK h.flt g hg o ho
def YW (D:PDisk) (a:Nat) (bs:List UInt8) (k:Nat):PDisk:=(List.range k).foldl (fun D j=>D.write (a+j) (seg 64 bs j)) D
theorem Jc (D:PDisk) (a:Nat) (bs:List UInt8) (k:Nat):YW D a bs (k+1)=(YW D a bs k).write (a+k) (seg 64 bs k):=by simp[YW,List.range_succ]
theorem KJ (D:PDisk) (a:Nat) (bs:List UInt8) (k:Nat):(YW D a bs k).n=D.n∧(YW D a bs k).off=D.off∧(YW D a bs k).fuse=D.fuse∧(YW D a bs k).acts=D.acts+k∧(YW D a bs k).faults=D.faults∧(YW D a bs k).safe=D.safe:=by
 induction k with
 | zero=>exact⟨rfl,rfl,rfl,rfl,rfl,rfl⟩
 | succ k ih=>rw[Jc];obtain⟨h1,h2,h3,h4,h5,h6⟩:=ih;exact⟨h1,h2,h3,by simp[PDisk.write,h4];omega,h5,h6⟩
structure KLay (w:World) (base d:Nat) (F:List Nat) (D:PDisk) (a:Nat) (bs:List UInt8) (N B3 B4 B6:Nat) (pre:List Nat) (W:World):Prop where
 disk:∃ F',DiskAt W base d F' (YW D a bs pre.length)∧(∀ x∈F',x∈F∨N≤x)
 size:N≤W.heap.size
 b3:Boxed W B3 32 (.pointer (some ⟨d,0,none⟩))
 b4:Boxed W B4 3 (.int .i64 ((a+pre.length:Nat)))
 b6:Boxed W B6 31 (.int .i64 0)
 keep:Keep F w W
theorem KLay.kept {w A B:World} {base d:Nat} {F:List Nat} {D:PDisk} {a:Nat} {bs:List UInt8} {N B3 B4 B6:Nat} {pre:List Nat} (h:KLay w base d F D a bs N B3 B4 B6 pre A) (hk:Keep [] A B):KLay w base d F D a bs N B3 B4 B6 pre B:=by
 obtain⟨F',h1,h2⟩:=h.disk
 exact⟨⟨F',h1.keep0 hk,h2⟩,Nat.le_trans h.size hk.size,JA h.b3 hk (by simp),JA h.b4 hk (by simp),JA h.b6 hk (by simp),h.keep.trans0 hk⟩
theorem KLay.turned {w W:World} {base d:Nat} {F:List Nat} {D:PDisk} {a:Nat} {bs:List UInt8} {N B3 B4 B6 l:Nat} {pre:List Nat} {o o':Obj} (h:KLay w base d F D a bs N B3 B4 B6 pre W) (hl:w.heap.size≤l) (hg:W.heap[l]? = some o) (ho:o.isCells=false):KLay w base d F D a bs N B3 B4 B6 pre (W.putObj l o'):=by
 obtain⟨F',h1,h2⟩:=h.disk
 exact⟨⟨F',h1.putObj o' hg ho,h2⟩,by rw[World.putObj_size];exact h.size,XC o' h.b3 hg ho,XC o' h.b4 hg ho,XC o' h.b6 hg ho,h.keep.putObj hl o'⟩
theorem JBA (w:World) (base d:Nat) (F:List Nat) (D:PDisk) (h:DiskAt w base d F D) (hoff:D.off=false) (hfuse:D.fuse = -1) (hbase:base≤w.heap.size) (a q g o c:Nat) (bs:List UInt8) (hq:1≤q) (hq2:q≤1000) (hlen:bs.length=64*q) (hc:64*q≤c)
 (ha:a+q≤D.n) (hacts:D.acts+q≤1000000000) (hb:Rd w (some ⟨g,o,none⟩) (64*q) (bys bs)) (hg:g<w.heap.size) (hgF:g∉F) :
 Calls Tryz.prog 189 #[.pointer (some ⟨d,0,none⟩),.int .i64 (a:Nat),.slice (some ⟨g,o,none⟩) (64*q) c] w fun e w'=>e=.returned (.int .i64 0)∧∃ F',DiskAt w' base d F' (YW D a bs q)∧Keep F w w'∧Grow w F F':=by
 refine(callsIn_wide (n:=3)).1 ?_
 refine callsIn_of_wp_marks Tryz.func189 rfl trivial ?_ rfl
 simp only[Tryz.ntmps189,List.size_toArray,List.length_cons,List.length_nil,Nat.reduceAdd,Nat.reduceSub,Array.replicate_succ,Array.replicate_zero,List.push_toArray,List.append_toArray,List.nil_append,List.cons_append]
 gi_wp2_with (refine⟨trivial,?_⟩;refine(Kt _ _ _ rfl).mono ?_;rintro e w' ⟨rfl,rfl⟩)
 obtain⟨v,hv⟩:∃ v,v=Value.slice (some ⟨g,o,none⟩) (64*q) c:=⟨_,rfl⟩
 rw[← hv]
 have HV:=ZB hv
 obtain⟨w1,hw1⟩:∃ w1,w1=w.alloc (.cells #[.pointer (some ⟨d,0,none⟩)] 32):=⟨_,rfl⟩
 obtain⟨w2,hw2⟩:∃ w2,w2=w1.alloc (.cells #[.int .i64 a] 3):=⟨_,rfl⟩
 obtain⟨w3,hw3⟩:∃ w3,w3=w2.alloc (.cells #[.int .i64 0] 31):=⟨_,rfl⟩
 obtain⟨w4,hw4⟩:∃ w4,w4=w3.alloc (.cells #[v] 39):=⟨_,rfl⟩
 obtain⟨w5,hw5⟩:∃ w5,w5=w4.alloc (.cells #[.int .i64 64] 3):=⟨_,rfl⟩
 rw[← hw1,← hw2,← hw3,← hw4,← hw5]
 have s1:w1.heap.size=w.heap.size+1:=by rw[hw1,World.size_alloc]
 have s2:w2.heap.size=w.heap.size+2:=by rw[hw2,World.size_alloc,s1]
 have s3:w3.heap.size=w.heap.size+3:=by rw[hw3,World.size_alloc,s2]
 have s4:w4.heap.size=w.heap.size+4:=by rw[hw4,World.size_alloc,s3]
 have s5:w5.heap.size=w.heap.size+5:=by rw[hw5,World.size_alloc,s4]
 have k1:Keep [] w w1:=by rw[hw1];exact(Keep.refl _ _).alloc _
 have k2:Keep [] w1 w2:=by rw[hw2];exact(Keep.refl _ _).alloc _
 have k3:Keep [] w2 w3:=by rw[hw3];exact(Keep.refl _ _).alloc _
 have k4:Keep [] w3 w4:=by rw[hw4];exact(Keep.refl _ _).alloc _
 have k5:Keep [] w4 w5:=by rw[hw5];exact(Keep.refl _ _).alloc _
 have kw:Keep [] w w5:=(((k1.trans0 k2).trans0 k3).trans0 k4).trans0 k5
 have b3:Boxed w5 w.heap.size 32 (.pointer (some ⟨d,0,none⟩)):=JA (by rw[hw1];exact Boxed.new w _ _) (((k2.trans0 k3).trans0 k4).trans0 k5) (by simp)
 have b4:Boxed w5 (w.heap.size+1) 3 (.int .i64 a):=JA (by rw[hw2,show w.heap.size+1=w1.heap.size by omega];exact Boxed.new w1 _ _) ((k3.trans0 k4).trans0 k5) (by simp)
 have b6:Boxed w5 (w.heap.size+1+1) 31 (.int .i64 0):=JA (by rw[hw3,show w.heap.size+1+1=w2.heap.size by omega];exact Boxed.new w2 _ _) (k4.trans0 k5) (by simp)
 have c1:Boxed w5 (w.heap.size+1+1+1) 39 v:=JA (by rw[hw4,show w.heap.size+1+1+1=w3.heap.size by omega];exact Boxed.new w3 _ _) k5 (by simp)
 have c2:Boxed w5 (w.heap.size+1+1+1+1) 3 (.int .i64 64):=by rw[hw5,show w.heap.size+1+1+1+1=w4.heap.size by omega];exact Boxed.new w4 _ _
 have hFlt:=h.lt
 have h0:KLay w base d F D a bs w5.heap.size w.heap.size (w.heap.size+1) (w.heap.size+1+1) [] w5:=
  ⟨⟨F,h.keep0 kw,fun x hx=>.inl hx⟩,Nat.le_refl _,b3,b4,b6,kw.zero⟩
 have hseq:=Vf 2 (w.heap.size+1+1+1) (w.heap.size+1+1+1+1) g o q c w5 hq2 hc (by rw[← QA HV];exact c1) c2 (by omega)
 have hgw5:w5.heap[g]? = w.heap[g]? := kw.block g hg (by simp)
 rw[← QA HV] at hseq
 clear hv
 refine XT (n:=3) (gf:=348) (lb:=#[.pointer (some ⟨w.heap.size+1+1+1,0,none⟩),.pointer (some ⟨w.heap.size+1+1+1+1,0,none⟩)]) rfl (enters_of Tryz.func348 (by kernel_rfl) rfl)
  hseq
  (fun A B C h k=>⟨k.1.trans h.1,fun hb=>k.2.1 (h.2.1 hb),fun hb=>k.2.2 (h.2.2 hb)⟩)
  (fun W l o o' hl hg' ho=>⟨World.putObj_heap_other (by omega),fun hb=>XC o' hb hg' ho,fun hb=>XC o' hb hg' ho⟩)
  (fun _=>rfl) (KLay w base d F D a bs w5.heap.size w.heap.size (w.heap.size+1) (w.heap.size+1+1)) (fun s A B h hk=>h.kept hk) (fun s W l o o' h hl hg' ho=>h.turned (by omega) hg' ho)
  (fun pre x W l o o' h hl hg' ho=>⟨h.1,h.2.1,(World.putObj_heap_other (by omega)).trans h.2.2⟩) h0
  (fun x=>{ tmps:=#[.pointer (some ⟨d,0,none⟩),.int .i64 a,v,.pointer (some ⟨w.heap.size,0,none⟩),.pointer (some ⟨w.heap.size+1,0,none⟩),undef,.pointer (some ⟨w.heap.size+1+1,0,none⟩),
    .slice (some ⟨g,o+64*x,none⟩) 64 64,undef,v,.func (.func 348) #[] #[.pointer (some ⟨w.heap.size+1+1+1,0,none⟩),.pointer (some ⟨w.heap.size+1+1+1+1,0,none⟩)],.slice (some ⟨g,o+64*x,none⟩) 64 64,
    undef,undef,undef,undef,undef,undef,undef,undef,undef],defers:=[] }) ?assign ?body ?done
 case assign=>
  rintro l x W K hK
  dsimp only[YAC] at hK ⊢
  gi_wp2
  exact hK
 case body=>
  rintro l pre x W hI ⟨hx,hxq,hgW⟩
  obtain⟨F',hD,hgr⟩:=hI.disk
  have hnot:∀ B,w.heap.size≤B→B<w5.heap.size→B∉F':=fun B h1 h2 hm=>(hgr B hm).elim (fun hm=>by have:=hFlt B hm;omega) (by omega)
  have hB3:=hnot w.heap.size (by omega) (by omega)
  have hB4:=hnot (w.heap.size+1) (by omega) (by omega)
  have hB6:=hnot (w.heap.size+1+1) (by omega) (by omega)
  have hC1:=hnot (w.heap.size+1+1+1) (by omega) (by omega)
  have hC2:=hnot (w.heap.size+1+1+1+1) (by omega) (by omega)
  have hcl:=hD.cells
  have hIsz:=hI.size
  have hsame:=KJ D a bs pre.length
  have hsz:=hI.keep.size
  have hgF':g∉F':=fun hm=>(hgr g hm).elim hgF (by omega)
  have hsl:(seg 64 bs x).length=64:=length_seg 64 bs x (by omega)
  have hrd:Rd W (some ⟨g,o+64*x,none⟩) 64 (bys (seg 64 bs x)):=by
   refine⟨by simp[hsl],fun _=>⟨g,o+64*x,rfl,by omega,fun j u hu=>?_⟩⟩
   have hj:j<64:=by have:=(List.getElem?_eq_some_iff.1 hu).1;simpa [hsl] using this
   obtain⟨b',o',he,_,hcell⟩:=hb.2 (by omega)
   cases he
   have h1:=hcell (64*x+j) u (by rw[← hu,← Xw,seg_get _ _ _ _ hj,Nat.mul_comm])
   rw[show o+64*x+j=o+(64*x+j) by omega]
   exact(World.cell?_of_block (w:=w) (hgW.trans hgw5)).trans h1
  have hT:=callsIn_wide (n:=0).2 (Qu W base d F' _ hD (hsame.2.1.trans hoff) (hsame.2.2.1.trans hfuse) (by rw[hsame.2.2.2.1];omega) (a+x) (by rw[hsame.1];omega) (some ⟨g,o+64*x,none⟩) 64 _ hrd (fun a' ha'=>by cases ha';exact hgF') (by omega))
  have hc3:=hI.b3.cell
  have hc4:=hI.b4.cell
  rw[← hx] at hc4
  have hDn:D.n≤4096:=by obtain⟨S,N,H,U,hh⟩:=h;exact hh.few
  obtain⟨y,hy⟩:∃ y,y=a+x:=⟨_,rfl⟩
  rw[← hy] at hT hc4
  have hyI:((y:Nat):Int)≤4096:=by omega
  have HY:=ZB hy
  clear hy
  have HX:=ZB hx
  have HI:=ZB hI
  clear h0 b3 b4 b6 c1 c2 kw k1 k2 k3 k4 k5 hw1 hw2 hw3 hw4 hw5 hseq hx hI hgw5 hgW s1 s2 s3 s4 hlen
  gi_wp2_with (refine⟨trivial,?_⟩;refine hT.mono ?_;clear hT;rintro e W2 ⟨rfl,F2,hD2,hk2,hg2⟩;(have hI:=QA HI);(have hx3:=(JA hI.b3 hk2 hB3));(have hx4:=(JA hI.b4 hk2 hB4));(have hx6:=JA hI.b6 hk2 hB6);(rw[← QA HX,← QA HY] at hx4);(have hc4':=hx4.cell);(have hf4':=hx4.frozen))
  have hI:=QA HI
  have hK:Keep ((w.heap.size+1) :: F') W (W2.setCell ⟨w.heap.size+1,0,none⟩ (.int .i64 ((y:Nat)+1))):=(hk2.sub (fun x hx=>List.mem_cons_of_mem _ hx)).setCell (p:=⟨w.heap.size+1,0,none⟩) (.inl List.mem_cons_self) _
  have hKs:Keep [w.heap.size+1] W2 (W2.setCell ⟨w.heap.size+1,0,none⟩ (.int .i64 ((y:Nat)+1))):=(Keep.refl _ _).setCell (.inl (by simp)) _
  have hB4lt:=hI.b4.lt
  have hB4F2:w.heap.size+1∉F2:=fun hm=>(hg2 _ hm).elim hB4 (by omega)
  refine⟨hK.fromCells ?_ _,⟨?_,fun hb=>JA hb hK (by simp only[List.mem_cons,not_or];exact⟨by omega,hC1⟩),fun hb=>JA hb hK (by simp only[List.mem_cons,not_or];exact⟨by omega,hC2⟩)⟩,⟨⟨F2,?_,fun x hx=>?_⟩,Nat.le_trans hIsz hK.size,?_,?_,?_,?_⟩⟩
  · intro b hb o ho
    rcases List.mem_cons.1 hb with rfl | hb
    · rw[show W.heap[_]? = _ from hI.b4] at ho;cases ho;rfl
    · exact hcl b hb o ho
  · exact hK.block g (by omega) (by simp only[List.mem_cons,not_or];exact⟨by omega,hgF'⟩)
  · rw[List.length_append,List.length_singleton,Jc,← QA HX]
    rw[← QA HX] at hD2
    rw[← QA HY]
    exact hD2.keep hKs (fun x hx hm=>by simp at hm;subst hm;exact hB4F2 hx)
  · rcases hg2 x hx with hx | hx
    · exact hgr x hx
    · exact .inr (by omega)
  · exact JA hx3 hKs (by simp)
  · have:=hx4.set (.int .i64 ((y:Nat)+1))
    rw[List.length_append,List.length_singleton,← Nat.add_assoc,← QA HX,← QA HY]
    exact this
  · exact JA hx6 hKs (by simp)
  · exact(hI.keep.trans hk2 (fun x hx=>(hgr x hx).imp id (by omega))).trans hKs (fun x hx=>.inr (by simp at hx;omega))
 case done=>
  intro D' xs W hD' hS hI hdef
  subst hS
  obtain⟨F',hD,hgr⟩:=hI.disk
  have hnot:∀ B,w.heap.size≤B→B<w5.heap.size→B∉F':=fun B h1 h2 hm=>(hgr B hm).elim (fun hm=>by have:=hFlt B hm;omega) (by omega)
  have hB6:=hnot (w.heap.size+1+1) (by omega) (by omega)
  have hc6:=hI.b6.cell
  have hf6:=hI.b6.frozen
  have HI:=ZB hI
  clear h0 b3 b4 b6 c1 c2 kw k1 k2 k3 k4 k5 hw1 hw2 hw3 hw4 hw5 hseq hI hgw5
  gi_wp2
  have hI:=QA HI
  have hKs:Keep [w.heap.size+1+1] W (W.setCell ⟨w.heap.size+1+1,0,none⟩ (.int .i64 0)):=(Keep.refl _ _).setCell (p:=⟨w.heap.size+1+1,0,none⟩) (.inl (by simp)) _
  have hdef2:(W.setCell ⟨w.heap.size+1+1,0,none⟩ (.int .i64 0)).heap[D']? = some (.deferred (some [])):=(hKs.block D' (Array.getElem?_eq_some_iff.1 hdef).1 (by simp;omega)).trans hdef
  have q6:=(XC (.deferred none) (hI.b6.set (.int .i64 0)) hdef2 rfl).cell
  have hD2:=(hD.keep hKs (fun x hx hm=>by simp at hm;subst hm;exact hB6 hx)).putObj (.deferred none) hdef2 rfl
  have hkw:=(hI.keep.trans hKs (fun x hx=>.inr (by simp at hx;omega))).putObj (g:=D') (by omega) (.deferred none)
  rw[List.length_range] at hD2
  refine⟨by simp,.inl ⟨_,_,rfl,run_takeDeferred hdef2,?_⟩⟩
  refine⟨.int .i64 0,?_,rfl,F',hD2,hkw,fun x hx=>(hgr x hx).imp id (by omega)⟩
  simp[results,Tryz.results189,go_sem,q6]
end
section
open Go.RowKit
variable {P:Program}
end
end Go.Proofs.YthgphmfipnjllaaGreat
