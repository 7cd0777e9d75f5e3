/- Lemmas of the proof, with their conditions. -/
import Derived.Test.YthgphmfipnjllaaGreatV35
namespace Go.Proofs.YthgphmfipnjllaaGreat
set_option linter.unusedSimpArgs false
set_option linter.unusedVariables false
set_option maxHeartbeats 4000000
set_option maxRecDepth 100000
section
open Go.RowKit Go.Shelf
attribute [local go_sem] Oper.semAt_some
theorem Kg (p:PPos) (Rs:List PRec):(placed p Rs).length=Rs.length:=by
 induction Rs generalizing p with
 | nil=>rfl
 | cons R Rs ih=>simp[placed,ih]
theorem QAy (w:World) (x y:Value) (e:TypeId):Rd (w.alloc (.cells #[x,y] e)) (some ⟨w.heap.size,0,none⟩) (1*2) [x,y]:=by
 have hb:=Blk.new w e #[x,y]
 refine⟨rfl,fun _=>⟨_,_,rfl,hb.lt,fun j u hu=>?_⟩⟩
 have h:=hb.cell j
 simp only[Nat.zero_add]
 rw[h]
 simpa using hu
theorem JAm (w:World) (s d g sg:Nat) (q:PPos) (hs:XI w s d g sg q):Calls Tryz.prog 176 #[.pointer (some ⟨s,0,none⟩)] w fun e w'=>e=.returned (.int .i64 0)∧w=w':=by
 unfold XI at hs
 have c13:=(cells14 hs).2.2.2.2.2.2.2.2.2.2.2.2.2
 go_enter Tryz.func176,Tryz.ntmps176
 go_wp2
 go_ret
 exact⟨rfl,rfl⟩
structure KOf (w:World) (base m g B sg:Nat) (Fm:List Nat) (I:PImage) (b5 b6 b7 oc N:Nat) (pre:List PTold) (W:World):Prop where
 b5:Boxed W b5 55 (.pointer (some ⟨g,0,none⟩))
 b6:Boxed W b6 46 (.pointer (some ⟨m,0,none⟩))
 b7:Boxed W b7 3 (.int .i64 (sg:Nat))
 out:∃ OV,Boxed W oc 162 OV∧W.ownsRow w.heap.size 135 2 OV (VK I B (pre.map (fun x=>(x.1,x.2.1)))).length ((VK I B (pre.map (fun x=>(x.1,x.2.1)))).flatMap blc)
 len:(VK I B (pre.map (fun x=>(x.1,x.2.1)))).length≤6*pre.length
 img:ImageAt W base m Fm I
 geom:GeomAt W g B
 keep:Keep [] w W
 size:N≤W.heap.size
set_option pp.deepTerms.threshold 500
set_option pp.maxSteps 1000000
theorem KAM (w:World) (base d g m B sg:Nat) (p0:PPos) (b0:Bool) (F Fm:List Nat) (I:PImage) (D:PDisk) (Rs:List PRec) (hg:GeomAt w g B) (h:DiskAt w base d F D) (hI:ImageAt w base m Fm I) (hIB:I.bl.length=B) (hoff:D.off=false) (hn:D.n=198+4*pgs B) (hsg7:sg≤7) (hf:∀ k,k<D.n→D.faults[k]? = some false)
 (hbg:Begins D B sg p0 b0 Rs)
 (hpl:∀ x∈placed p0 Rs,x.1.seg=sg∧x.1.off≤24∧x.2.May∧∀ i∈x.2.items,i.loaded=true→i.b<B) (hmany:Rs.length≤100) :
 Calls Tryz.prog 97 #[.pointer (some ⟨d,0,none⟩),.pointer (some ⟨g,0,none⟩),.pointer (some ⟨m,0,none⟩),.int .i64 (sg:Nat)] w fun e w'=>∃ U,e=.returned (.tuple #[U,.int .i64 0]) ∧
  w'.ownsRow w.heap.size 135 2 U (VK I B (placed p0 Rs)).length ((VK I B (placed p0 Rs)).flatMap blc)∧Keep [] w w':=by
 have hS:=fun W (hk:Keep [] w W)=>callsIn_wide (n:=2).2 (ZAO W d g B sg (hg.keep0 hk) hsg7)
 have HS:=ZB hS
 have HPL:=ZB hpl
 have HMANY:=ZB hmany
 have HBG:=ZB hbg
 have HF:=ZB hf
 clear hS hpl hmany hbg hf
 refine(callsIn_wide (n:=3)).1 ?_
 refine callsIn_of_wp_marks Tryz.func97 rfl trivial ?_ rfl
 simp only[Tryz.ntmps97,List.size_toArray,List.length_cons,List.length_nil,Nat.reduceAdd,Nat.reduceSub,Array.replicate_succ,Array.replicate_zero,List.push_toArray,List.append_toArray,List.nil_append,List.cons_append]
 obtain⟨wa,hwa⟩:∃ x,x=w.alloc (.cells #[.pointer (some ⟨g,0,none⟩)] 55):=⟨_,rfl⟩
 obtain⟨wb,hwb⟩:∃ x,x=wa.alloc (.cells #[.pointer (some ⟨m,0,none⟩)] 46):=⟨_,rfl⟩
 obtain⟨wc,hwc⟩:∃ x,x=wb.alloc (.cells #[.int .i64 (sg:Nat)] 3):=⟨_,rfl⟩
 obtain⟨w1,hw1⟩:∃ x,x=wc.alloc (.cells #[.slice none 0 0] 162):=⟨_,rfl⟩
 have sa:wa.heap.size=w.heap.size+1:=by rw[hwa,World.size_alloc]
 have sb:wb.heap.size=w.heap.size+1+1:=by rw[hwb,World.size_alloc,sa]
 have sc:wc.heap.size=w.heap.size+1+1+1:=by rw[hwc,World.size_alloc,sb]
 have s1:w1.heap.size=w.heap.size+1+1+1+1:=by rw[hw1,World.size_alloc,sc]
 have ka:Keep [] w wa:=by rw[hwa];exact(Keep.refl _ _).alloc _
 have kb:Keep [] wa wb:=by rw[hwb];exact(Keep.refl _ _).alloc _
 have kc:Keep [] wb wc:=by rw[hwc];exact(Keep.refl _ _).alloc _
 have kd:Keep [] wc w1:=by rw[hw1];exact(Keep.refl _ _).alloc _
 have kw:Keep [] w w1:=((ka.trans0 kb).trans0 kc).trans0 kd
 have q5:Boxed w1 w.heap.size 55 (.pointer (some ⟨g,0,none⟩)):=JA (by rw[hwa];exact Boxed.new w _ _) ((kb.trans0 kc).trans0 kd) (by simp)
 have q6:Boxed w1 (w.heap.size+1) 46 (.pointer (some ⟨m,0,none⟩)):=JA (by rw[hwb,← sa];exact Boxed.new wa _ _) (kc.trans0 kd) (by simp)
 have q7:Boxed w1 (w.heap.size+1+1) 3 (.int .i64 (sg:Nat)):=JA (by rw[hwc,← sb];exact Boxed.new wb _ _) kd (by simp)
 have q8:Boxed w1 (w.heap.size+1+1+1) 162 (.slice none 0 0):=by rw[hw1,← sc];exact Boxed.new wc _ _
 gi_wp2_with (
  rw[← hwa,← hwb,← hwc,← hw1]
  refine⟨trivial,?_⟩
  refine(QA HS w1 kw).mono ?_
  rintro e w2 ⟨s,rfl,hs2,hsz2,hk2⟩
  have x6:=(JA q6 hk2 (by simp)).cell)
 gi_wp2_with (refine⟨trivial,?_⟩;refine(YAq _ _ _ rfl).mono ?_;rintro e w' ⟨rfl,rfl⟩)
 obtain⟨w3,hw3⟩:∃ x,x=w2.alloc (.cells #[.pointer (some ⟨s,0,none⟩)] 233):=⟨_,rfl⟩
 rw[← hw3]
 have k3:Keep [] w2 w3:=by rw[hw3];exact(Keep.refl _ _).alloc _
 have s3:w3.heap.size=w2.heap.size+1:=by rw[hw3,World.size_alloc]
 have k23:Keep [] w1 w3:=hk2.trans0 k3
 have kw3:Keep [] w w3:=kw.trans0 k23
 have q9:Boxed w3 w2.heap.size 233 (.pointer (some ⟨s,0,none⟩)):=by rw[hw3];exact Boxed.new w2 _ _
 have hs3:XI w3 s d g sg ⟨sg,0,0,0,0⟩:=Blk.keep0 hs2 k3
 have hw2s:=hk2.size
 have hFlt:=h.lt
 have hFmlt:=hI.lt
 have hglt:=hg.lt
 have hsl:=hs2.lt
 have h0:KOf w base m g B sg Fm I w.heap.size (w.heap.size+1) (w.heap.size+1+1) (w.heap.size+1+1+1) w3.heap.size [] w3:=
  ⟨JA q5 k23 (by simp),JA q6 k23 (by simp),JA q7 k23 (by simp),⟨_,JA q8 k23 (by simp),World.ownsRow_nil _ _ _ _⟩,Nat.le_refl _,hI.keep0 kw3,hg.keep0 kw3,kw3,Nat.le_refl _⟩
 have hseq:=YAB 2 w2.heap.size s d g B base sg ⟨sg,0,0,0,0⟩ p0 b0 F D Rs [135,162] (by decide) (by decide) (by decide) (by decide) (by decide) (by decide) (by decide) (by decide) (by decide)
  w3 q9 hs3 (hg.keep0 kw3) (h.keep0 kw3) hoff hn hsg7 (QA HF) (QA HBG) (fun hm=>by have:=hFlt _ hm;omega) (by omega)
 clear x6 q5 q6 q7 q8 ka kb kc kd hwa hwb hwc hw1 hw3 sa sb sc
 refine ZU (n:=3) (gf:=283) (lb:=#[.pointer (some ⟨w2.heap.size,0,none⟩)]) rfl (enters_of Tryz.func283 (by kernel_rfl) rfl)
  (fun xs V k o o' hS hl hg' ho=>⟨hS.1,hS.2.choose,JG o' hS.2.choose_spec hg' ho⟩) hseq (fun _=>rfl) (fun x hx=>by simp at hx;omega)
  (KOf w base m g B sg Fm I w.heap.size (w.heap.size+1) (w.heap.size+1+1) (w.heap.size+1+1+1) w3.heap.size) ?hI ?hIb (fun pre x A B hF hk=>⟨hF.1,hF.2.keep0 hk⟩) ?hFb h0
  (fun x a' V=>∃ b12,a'={ tmps:=#[.pointer (some ⟨d,0,none⟩),.pointer (some ⟨g,0,none⟩),.pointer (some ⟨m,0,none⟩),.int .i64 (sg:Nat),undef,.pointer (some ⟨w.heap.size,0,none⟩),.pointer (some ⟨w.heap.size+1,0,none⟩),.pointer (some ⟨w.heap.size+1+1,0,none⟩),.pointer (some ⟨w.heap.size+1+1+1,0,none⟩),.int .i64 0,.pointer (some ⟨s,0,none⟩),.int .i64 x.1.off,.pointer (some ⟨b12,0,none⟩),undef,undef,undef,.pointer (some ⟨d,0,none⟩),.pointer (some ⟨g,0,none⟩),.int .i64 (sg:Nat),.pointer (some ⟨s,0,none⟩),.pointer (some ⟨s,0,none⟩),.bool false,.bool false,.pointer (some ⟨m,0,none⟩),.bool false,.bool false,.pointer (some ⟨s,0,none⟩),.func (.func 283) #[] #[.pointer (some ⟨w2.heap.size,0,none⟩)],.int .i64 x.1.off,.agg #[.int .i64 x.2.1.mount,.int .i64 x.2.1.lsn,.int .i64 x.2.1.prev,x.2.2.1,x.2.2.2],undef,undef,undef,undef,undef,undef,undef,undef,undef,undef,undef,undef,undef,undef,undef,undef,undef,undef,undef,undef,undef,undef,undef,undef,undef,undef,undef,undef,undef,undef,undef,undef,undef,undef,undef,undef],defers:=[] }∧Blk V b12 239 #[.int .i64 x.2.1.mount,.int .i64 x.2.1.lsn,.int .i64 x.2.1.prev,x.2.2.1,x.2.2.2])
  ?hAb ?assign ?body ?done
 case hI=>
  intro xs A V L hA hk hL
  have hns:∀ b cs t,A.heap[b]? = some (.cells cs t)→t∉[333,72]→b∉L:=fun b cs t hb ht hm=>by
   obtain⟨-,cs',t',e1,e2⟩:=hL _ hm
   rw[hb] at e1
   cases e1
   exact ht e2
  have hge:∀ x∈L,w.heap.size≤x:=fun x hx=>by
   obtain⟨h1,-⟩:=hL x hx
   rcases h1 with h1 | h1
   · simp at h1;omega
   · omega
  obtain⟨OV,ho1,ho2⟩:=hA.out
  refine⟨JA hA.b5 hk (hns _ _ _ hA.b5 (by decide)),JA hA.b6 hk (hns _ _ _ hA.b6 (by decide)),JA hA.b7 hk (hns _ _ _ hA.b7 (by decide)),⟨OV,JA ho1 hk (hns _ _ _ ho1 (by decide)),KA ho2 hk (fun b hb hm=>?_)⟩,hA.len,hA.img.keep hk (fun x hx hm=>by have:=hFmlt x hx;have:=hge x hm;omega),hA.geom.keep hk (fun hm=>by have:=hge _ hm;omega),hA.keep.trans hk (fun x hx=>.inr (hge x hx)),Nat.le_trans hA.size hk.size⟩
  rcases ho2.2 with⟨rfl,_⟩ | ⟨b',cap,cur,rfl,_,hb',_⟩
  · simp[Value.ownBlock] at hb
  · obtain rfl:b'=b:=by simpa [Value.ownBlock] using hb
    exact hns _ _ _ hb' (by decide) hm
 case hIb=>
  intro xs V k o o' hV hl hg' ho
  obtain⟨OV,ho1,ho2⟩:=hV.out
  obtain⟨p1,p2,F1,F2,hi⟩:=hV.img
  exact⟨XC o' hV.b5 hg' ho,XC o' hV.b6 hg' ho,XC o' hV.b7 hg' ho,⟨OV,XC o' ho1 hg' ho,YG o' ho2 hg' ho⟩,hV.len,⟨p1,p2,F1,F2,hi.putObj o' hg' ho⟩,⟨JG o' hV.geom.blk hg' ho,hV.geom.pos,hV.geom.few⟩,hV.keep.putObj (by omega) _,by rw[World.putObj_size];exact hV.size⟩
 case hFb=>
  intro pre x V k o o' hV hl hg' ho
  obtain⟨h1,hi,ls,h2,h3,h4⟩:=hV
  exact⟨h1,YG o' hi hg' ho,ls,h2,YG o' h3 hg' ho,fun q hq=>YG o' (h4 q hq) hg' ho⟩
 case hAb=>
  intro x a' V k o o' hV hl hg' ho
  obtain⟨b12,h1,h2⟩:=hV
  exact⟨b12,h1,JG o' h2 hg' ho⟩
 case assign=>
  rintro l' pre ⟨p,R,I',Bv⟩ V K' hI' hF hK
  have hF2:RecHold V 0 I' Bv R:=hF.2
  obtain⟨IA,ic,rfl,_⟩:=QB hF2.its
  obtain⟨BA,bl,bc',rfl⟩:∃ BA bl bc,Bv=.slice BA bl bc:=by obtain⟨ls,-,h2,-⟩:=hF2.bls;obtain⟨A,c,h,_⟩:=QB h2;exact⟨A,_,c,h⟩
  have HK:=ZB hK
  clear hK hseq h0 hF hF2 hI'
  dsimp only[QAW]
  gi_wp2
  exact QA HK _ _ ((Keep.refl _ _).alloc _) ⟨_,rfl,Blk.new V _ _⟩
 case body=>
  rintro l' pre ⟨p,R,I',Bv⟩ a' V hI' hF ⟨b12,rfl,hb12⟩
  have hF2:RecHold V 0 I' Bv R:=hF.2
  obtain⟨hps,hpo,hmay,hlb⟩:=QA HPL (p,R) (List.mem_of_getElem? hF.1)
  simp only at hps hpo hmay hlb
  obtain⟨gi,ic,rfl,_⟩:=QD hF2.its hmay.some
  obtain⟨BA,bl,bc',rfl⟩:∃ BA bl bc,Bv=.slice BA bl bc:=by obtain⟨ls,-,h2,-⟩:=hF2.bls;obtain⟨A,c,h,_⟩:=QB h2;exact⟨A,_,c,h⟩
  dsimp only at hb12 ⊢
  have c5:=hI'.b5.cell
  have c7:=hI'.b7.cell
  have hSg:=callsIn_wide (n:=0).2 (VQ V g B hI'.geom sg hsg7)
  obtain⟨K,hK⟩:∃ K,K=6+4*pgs B+24*sg:=⟨_,rfl⟩
  rw[← hK] at hSg
  obtain⟨a0,ha0⟩:∃ a0,a0=K+p.off:=⟨_,rfl⟩
  have hpgs:=(KC hg.pos hg.few).2
  have hK4:a0≤400:=by omega
  have hw0:IntKind.i64.wrap (((K:Nat):Int)+(p.off:Nat))=(a0:Nat):=by rw[IntKind.wrap_i64];omega
  have HK0:=ZB hK
  have HA0:=ZB ha0
  have HI':=ZB hI'
  have HF2:=ZB hF2
  have HFX:=ZB hF
  have HMAY:=ZB hmay
  have HLB:=ZB hlb
  have HPS:=ZB hps
  obtain⟨q,hq⟩:∃ q,q=R.items.length:=⟨_,rfl⟩
  have hq6:q≤6:=by rw[hq];exact hmay.few
  have HQ:=ZB hq
  have hb3:=(ZC hb12).2.2.2.1
  rw[← hq] at hb3
  clear hK ha0 hI' hF2 hF hmay hlb hps hseq h0 hpo
  gi_wp2_with (
   refine⟨trivial,?_⟩
   refine hSg.mono ?_
   clear hSg
   rintro e V1 ⟨rfl,hk1⟩
   have hb3':=(ZC (hb12.keep0 hk1)).2.2.2.1
   rw[← QA HQ] at hb3')
  have hI1:=QA HI'
  have hkw1:Keep [] w V1:=hI1.keep.trans0 hk1
  obtain⟨T0,hT0⟩:∃ T0,T0=VK I B (pre.map (fun x=>(x.1,x.2.1))):=⟨_,rfl⟩
  have hout:=hI1.out
  rw[← hT0] at hout
  have hlenT:T0.length≤600∧∀ j,(YL I a0 (R.items.take j)).length≤6:=by
   have h1:=hI1.len
   have h2:=(List.getElem?_eq_some_iff.1 (QA HFX).1).1
   have h3:=QA HMANY
   rw[Kg] at h2
   refine⟨by rw[hT0];omega,fun j=>?_⟩
   have h4:=KAS I a0 (R.items.take j)
   rw[List.length_take] at h4
   have:=QA HQ
   omega
  have HT0:=ZB hT0
  have HLT:=ZB hlenT
  clear hT0 hlenT hI1
  have hitm:=ZA (QA HF2).its hk1
  gi_loopw [13,38] (fun at' i wr=>∃ j:Nat,j≤q∧i=.int .i64 j∧at'=.int .i64 (a0+YE (R.items.take j):Nat)∧KeepT [135,162] V wr∧Keep [] w wr ∧
   ∃ OV,Boxed wr (w.heap.size+1+1+1) 162 OV∧wr.ownsRow w.heap.size 135 2 OV (T0++YL I a0 (R.items.take j)).length ((T0++YL I a0 (R.items.take j)).flatMap blc)) (fun _ i _=>q-(intOf i).toNat)
  case atStart=>
   refine⟨0,Nat.zero_le _,rfl,by simp[YE],KeepT.of0 hk1,hkw1,?_⟩
   obtain⟨OV,h1,h2⟩:=hout
   exact⟨OV,JA h1 hk1 (by simp),by simpa [YL] using ZA h2 hk1⟩
  case round=>
   clear hout hk1 hkw1 hitm c5 c7 hb3 hb3' hb12
   have hitm':=(QA HF2).its
   obtain⟨j,hj,rfl,rfl,hKT,hkw,OV,ho1,ho2⟩:=hrel
   by_cases hlt:j<q
   · have hltI:((j:Nat):Int)<(q:Nat):=by omega
     have hjl:j<R.items.length:=by have:=QA HQ;omega
     have hits:=hKT.own hitm' (by decide)
     have hgl:gi<wr.heap.size:=(YC JE (Rd.of_ownN hits) hjl (j:=0) (by omega)).1
     have c0:=(YC JE (Rd.of_ownN hits) hjl (j:=0) (by omega)).2
     have c1:=(YC JE (Rd.of_ownN hits) hjl (j:=1) (by omega)).2
     have c2:=(YC JE (Rd.of_ownN hits) hjl (j:=2) (by omega)).2
     have c3:=(YC JE (Rd.of_ownN hits) hjl (j:=3) (by omega)).2
     have hmi:=(QA HMAY).items _ (List.getElem_mem hjl)
     have hbi:=QA HLB _ (List.getElem_mem hjl)
     have htk:R.items.take (j+1)=R.items.take j++[R.items[j]]:=List.take_succ_eq_append_getElem hjl
     have hsn:=ZAD I a0 (R.items.take j) R.items[j]
     have hln:=JX (R.items.take j) R.items[j]
     rw[← htk] at hsn hln
     obtain⟨lj,hlj⟩:∃ lj,lj=YE (R.items.take j):=⟨_,rfl⟩
     have hlj6:lj≤6:=by have:=VH (R.items.take j);rw[List.length_take] at this;omega
     rw[← hlj] at hsn hln
     obtain⟨y,hy⟩:∃ y,y=a0+lj:=⟨_,rfl⟩
     rw[← hlj,← hy]
     have hT:=fun W=>callsIn_wide (n:=0).2 (Ke _ hmi W)
     generalize R.items[j]=it at *
     obtain⟨ik,ib,ic',iv⟩:=it
     have hlbv:∃ lb,lb=PItem.loaded ⟨ik,ib,ic',iv⟩:=⟨_,rfl⟩
     obtain⟨lb,hlb⟩:=hlbv
     rw[← hlb] at hT hsn hln hbi
     have hC:=fun W (hk:Keep [] w W) (hl:lb=true)=>callsIn_wide (n:=0).2 (Xq W base m Fm I (hI.keep0 hk) ib (y+1) (by rw[hIB];exact hbi hl))
     simp only[itc,List.getElem?_cons_zero,List.getElem?_cons_succ,Nat.add_zero] at c0 c1 c2 c3 hT hsn
     have hI1:=QA HI'
     have x6:=(hKT.box hI1.b6 (by decide)).cell
     have HSN:=ZB hsn
     have HLN:=ZB hln
     have HTK:=ZB htk
     have HLJ:=ZB hlj
     have HY:=ZB hy
     have HHK:=ZB hKT
     have HKW:=ZB hkw
     have hy4:y≤420:=by omega
     clear hsn hln htk hlj hy hmi hbi hI1 hits hlb hKT hkw
     cases lb
     · gi_wp2_with (refine⟨trivial,?_⟩;refine(hT _).mono ?_;clear hT;rintro e w2 ⟨rfl,hk2⟩)
       go_roundw
       case rel=>
        have hkA:Keep [] wr w2:=((Keep.refl [] wr).alloc (.cells #[.int .i64 ik,.int .i64 ib,.int .i64 ic',.int .i64 iv] 114)).trans0 hk2
        have e1:=QA HSN
        simp only[Bool.false_eq_true,if_false,List.append_nil] at e1
        have e2:=QA HLN
        simp only[Bool.false_eq_true,if_false,Nat.add_zero] at e2
        exact⟨j+1,by omega,by go_num,by rw[e2,← QA HY],(QA HHK).trans (KeepT.of0 hkA),(QA HKW).trans0 hkA,OV,JA ho1 hkA (by simp),by rw[e1];exact ZA ho2 hkA⟩
       case measure=>simp[intOf];omega
     · replace hC:=fun W hk=>hC W hk rfl
       obtain⟨z,hzy⟩:∃ z,z=y+1:=⟨_,rfl⟩
       have hwz:IntKind.i64.wrap (((y:Nat):Int)+1)=(z:Nat):=by rw[IntKind.wrap_i64];omega
       rw[← hzy] at hC
       have HZY:=ZB hzy
       obtain⟨cb,hcb⟩:∃ cb,cb=VP I ib z:=⟨_,rfl⟩
       rw[← hcb] at hC
       have HCB:=ZB hcb
       have hbi:=Blk.new wr 114 #[.int .i64 ik,.int .i64 ib,.int .i64 ic',.int .i64 iv]
       have hkI:Keep [] wr (wr.alloc (.cells #[.int .i64 ik,.int .i64 ib,.int .i64 ic',.int .i64 iv] 114)):=(Keep.refl _ _).alloc _
       clear hzy hcb
       obtain⟨OA,oc,rfl,_⟩:=QB ho2
       cases cb
       · gi_wp2_with (first
          | (refine⟨trivial,?_⟩
             refine(hT _).mono ?_
             clear hT
             rintro e w2 ⟨rfl,hk2⟩
             have hkA:=hkI.trans0 hk2
             have i1:w2.cell? ⟨wr.heap.size,1,none⟩=some (.int .i64 ib):=by simpa using(hbi.keep0 hk2).cell 1
             have x6':=(JA (show Boxed wr _ _ _ from (QA HHK).box (QA HI').b6 (by decide)) hkA (by simp)).cell)
          | (refine⟨trivial,?_⟩;refine(hC _ ((QA HKW).trans0 hkA)).mono ?_;clear hC;rintro e w3 ⟨rfl,rfl⟩))
         go_roundw
         case rel=>
          have e1:=QA HSN
          have e3:=QA HCB
          rw[QA HZY,QA HY] at e3
          simp only[if_true,← e3,Bool.false_eq_true,if_false,List.append_nil] at e1
          have e2:=QA HLN
          simp only[if_true] at e2
          exact⟨j+1,by omega,by go_num,by rw[e2,QA HZY,QA HY,Nat.add_assoc],(QA HHK).trans (KeepT.of0 hkA),(QA HKW).trans0 hkA,_,JA ho1 hkA (by simp),by rw[e1];exact ZA ho2 hkA⟩
         case measure=>simp[intOf];omega
       · obtain⟨LT,hLT⟩:∃ LT,LT=T0++YL I a0 (R.items.take j):=⟨_,rfl⟩
         obtain⟨nT,hnT⟩:∃ n,n=LT.length:=⟨_,rfl⟩
         have hn6:nT≤606:=by have h1:=QA HLT;have h2:=h1.2 j;rw[hnT,hLT,List.length_append];omega
         rw[← hLT,← hnT] at ho2
         rw[← hLT,← hnT] at ho1
         have HHLT:=ZB hLT
         have HNT:=ZB hnT
         clear hLT hnT
         gi_wp2_with (first
          | (refine⟨trivial,?_⟩
             refine(hT _).mono ?_
             clear hT
             rintro e w2 ⟨rfl,hk2⟩
             have hkA:=hkI.trans0 hk2
             have i1:w2.cell? ⟨wr.heap.size,1,none⟩=some (.int .i64 ib):=by simpa using(hbi.keep0 hk2).cell 1
             have x6':=(JA (show Boxed wr _ _ _ from (QA HHK).box (QA HI').b6 (by decide)) hkA (by simp)).cell
             have hoc:=(JA ho1 hkA (by simp)).cell
             have hkB:Keep [] wr (w2.alloc (.cells #[.int .i64 ib,.int .i64 (z:Nat)] 135)):=hkA.alloc _
             have hszB:=hkB.size
             have hszw:=(QA HKW).size
             have hrd:Rd (w2.alloc (.cells #[.int .i64 ib,.int .i64 (z:Nat)] 135)) (some ⟨w2.heap.size,0,none⟩) (1*2) [.int .i64 ib,.int .i64 (z:Nat)]:=QAy w2 _ _ _)
          | (refine⟨trivial,?_⟩;refine(hC _ ((QA HKW).trans0 hkA)).mono ?_;clear hC;rintro e w3 ⟨rfl,rfl⟩)
          | (gi_at_builtin
             refine elemTold.wpIn_app rfl _ _ rfl w.heap.size (.slice OA nT oc) nT (LT.flatMap blc) rfl (ZA ho2 hkB) ⟨w2.heap.size,0,none⟩ 1 1 [.int .i64 ib,.int .i64 (z:Nat)] rfl hrd (by simp[Value.oneCell']) (by omega) (by omega) (by omega) ?_
             rintro v' w3 hv3 hk3 hat
             obtain⟨VA,vc,rfl,_⟩:=QB hv3
             have hb3:=JA (JA ho1 hkB (by simp)) hk3 (fun hm=>(JA ho1 hkB (by simp)).not_row (by decide) (ZA ho2 hkB) (Eq.symm (by simpa using hm)))
             have e3:=hb3.cell
             have f3:=hb3.frozen))
         have hb4:=hb3.set (.slice VA (nT+1) vc)
         have hkS:Keep [w.heap.size+1+1+1] w3 (w3.setCell ⟨w.heap.size+1+1+1,0,none⟩ (.slice VA (nT+1) vc)):=(Keep.refl _ _).setCell (.inl (by simp)) _
         have hv4:(w3.setCell ⟨w.heap.size+1+1+1,0,none⟩ (.slice VA (nT+1) vc)).ownsRow w.heap.size 135 2 (.slice VA (nT+1) vc) (nT+1) (LT.flatMap blc++[.int .i64 ib,.int .i64 (z:Nat)]):=own_set hv3 (fun hm=>hb3.not_row (by decide) hv3 (Eq.symm (by simpa using hm))) (.slice VA (nT+1) vc)
         go_roundw
         case rel=>
          have e1:=QA HSN
          have e3:=QA HCB
          rw[QA HZY,QA HY] at e3
          simp only[if_true,← e3] at e1
          have e2:=QA HLN
          simp only[if_true] at e2
          have hlt2:T0++YL I a0 (R.items.take (j+1))=LT++[(ib,z)]:=by rw[e1,QA HHLT,QA HZY,QA HY,List.append_assoc]
          have ho2':=ZA ho2 hkB
          have hKT3:KeepT [135,162] (w2.alloc (.cells #[.int .i64 ib,.int .i64 (z:Nat)] 135)) w3:=KeepT.ofKeep hk3 (fun x hx=>by
           rcases ho2'.2 with⟨h1,_⟩ | ⟨b',cap,cur,h1,_,hb',_⟩
           · rw[h1] at hx;simp[Value.ownBlock] at hx
           · rw[h1] at hx
             obtain rfl:b'=x:=by simpa [Value.ownBlock,eq_comm] using hx
             exact⟨_,_,hb',by decide⟩)
          have hKT4:KeepT [135,162] w3 (w3.setCell ⟨w.heap.size+1+1+1,0,none⟩ (.slice VA (nT+1) vc)):=KeepT.ofKeep hkS (fun x hx=>by simp at hx;subst hx;exact⟨_,_,hb3,by decide⟩)
          refine⟨j+1,by omega,by go_num,by rw[e2,QA HZY,QA HY,Nat.add_assoc],(((QA HHK).trans (KeepT.of0 hkB)).trans hKT3).trans hKT4,?_,_,hb4,?_⟩
          · refine(((QA HKW).trans0 hkB).trans hk3 (fun x hx=>.inr ((own_mem ho2' (by simpa using hx)).1))).trans hkS (fun x hx=>.inr (by simp at hx;omega))
          · rw[hlt2]
            have h9:(LT++[(ib,z)]).length=nT+1:=by rw[List.length_append,← QA HNT];rfl
            rw[h9,List.flatMap_append]
            exact hv4
         case measure=>simp[intOf];omega
   · obtain rfl:j=q:=by omega
     gi_wp2
     have hI1:=QA HI'
     have hall:R.items.take j=R.items:=List.take_of_length_le (by have:=QA HQ;omega)
     have hseg:YB B p.seg+p.off=a0:=by rw[QA HPS,QA HA0,QA HK0];rfl
     have htl:VK I B ((pre++[((p,R,.slice (some ⟨gi,0,none⟩) R.items.length ic,.slice BA bl bc'):PTold)]).map (fun x=>(x.1,x.2.1)))=T0++YL I a0 R.items:=by
      rw[List.map_append,List.map_cons,List.map_nil,JAA,← QA HT0]
      simp only[hseg]
     rw[hall] at ho2
     refine⟨hKT,hKT.box hI1.b5 (by decide),hKT.box hI1.b6 (by decide),hKT.box hI1.b7 (by decide),⟨OV,ho1,by rw[htl];exact ho2⟩,?_,hI.keep0 hkw,hg.keep0 hkw,hkw,Nat.le_trans hI1.size hKT.size⟩
     have h1:=hI1.len
     have h2:=(QA HLT).2 j
     rw[← QA HT0] at h1
     rw[htl,← hall,List.length_append,List.length_append,List.length_singleton]
     omega
 case done=>
  intro D' xs V hD' hS hI' hdef
  obtain⟨hxs,q',hsc⟩:=hS
  obtain⟨OV,ho1,ho2⟩:=hI'.out
  have hlen6:=hI'.len
  rw[hxs] at ho2 hlen6
  have hxl:xs.length=Rs.length:=by have:=congrArg List.length hxs;rw[List.length_map,Kg] at this;exact this
  rw[hxl] at hlen6
  have hm100:=QA HMANY
  obtain⟨LT,hLT⟩:∃ LT,LT=VK I B (placed p0 Rs):=⟨_,rfl⟩
  rw[← hLT] at ho2 hlen6
  obtain⟨nT,hnT⟩:∃ n,n=LT.length:=⟨_,rfl⟩
  rw[← hnT] at ho2 hlen6
  have HNT:=ZB hnT
  have HHLT:=ZB hLT
  have HKW:=ZB hI'.keep
  have HSZ:=ZB hI'.size
  have hE:=callsIn_wide (n:=2).2 (JAm V s d g sg q' hsc)
  obtain⟨OA,oc,rfl,_⟩:=QB ho2
  have e8:=ho1.cell
  have f8:=ho1.frozen
  have l8:=ho1.lt
  clear hnT hLT hseq h0 hsc hI' hxs hxl
  gi_wp2_with (refine⟨trivial,?_⟩;refine hE.mono ?_;clear hE;rintro e w' ⟨rfl,rfl⟩)
  have hb4:=ho1.set (.slice OA nT oc)
  have hkS:Keep [w.heap.size+1+1+1] V (V.setCell ⟨w.heap.size+1+1+1,0,none⟩ (.slice OA nT oc)):=(Keep.refl _ _).setCell (.inl (by simp)) _
  have hv4:(V.setCell ⟨w.heap.size+1+1+1,0,none⟩ (.slice OA nT oc)).ownsRow w.heap.size 135 2 (.slice OA nT oc) nT (LT.flatMap blc):=own_set ho2 (fun hm=>ho1.not_row (by decide) ho2 (Eq.symm (by simpa using hm))) (.slice OA nT oc)
  have hdef2:(V.setCell ⟨w.heap.size+1+1+1,0,none⟩ (.slice OA nT oc)).heap[D']? = some (.deferred (some [])):=(hkS.block D' (Array.getElem?_eq_some_iff.1 hdef).1 (by simp;omega)).trans hdef
  have hb5:=XC (.deferred none) hb4 hdef2 rfl
  have e9:=hb5.cell
  have hkw:=((QA HKW).trans hkS (fun x hx=>.inr (by simp at hx;omega))).putObj (g:=D') (by omega) (.deferred none)
  refine⟨by simp,.inl ⟨_,_,rfl,run_takeDeferred hdef2,?_⟩⟩
  refine⟨.tuple #[.slice OA nT oc,.int .i64 0],?_,?_⟩
  · simp[results,Tryz.results97,go_sem,e9]
  · rw[← QA HHLT,← QA HNT]
    exact⟨_,rfl,ownsRow_putObj hv4 (.deferred none) hdef2 rfl,hkw⟩
end
section
open Go.RowKit Go.Shelf
theorem Vs (A:Option Addr) (n c:Nat) (xs:List Int) (w:World) (ha:Rd w A n (VS xs)) (hn:n≤1000000) :
 Calls Tryz.prog 181 #[.slice A n c] w fun e w'=>∃ v,e=.returned v∧w'.ownsRow w.heap.size 3 1 v n (VS xs)∧Keep [] w w':=by
 have heq:=fun(W:World)=>Lib.run_eql_slice_nil (P:=Tryz.prog) W 22 3 A n c 0 0 Tryz.underlying22
 rcases A with _ | ad
 · obtain rfl:n=0:=by
    rcases Nat.eq_zero_or_pos n with e | e
    · exact e
    · obtain⟨b,o,h,_⟩:=ha.2 e
      cases h
   obtain rfl:xs=[]:=List.eq_nil_of_length_eq_zero (by simpa using ha.1)
   go_enter Tryz.func181,Tryz.ntmps181
   go_wp2
   go_ret
   exact⟨_,rfl,World.ownsRow_nil _ _ _ _,Keep.refl _ _⟩
 · have hr:=ha.keep ((Keep.refl _ w).alloc (.cells #[] 3))
   have ho:(w.alloc (.cells #[] 3)).ownsRow w.heap.size 3 1 (.slice (some ⟨w.heap.size,0,none⟩) 0 0) 0 []:=VM (Blk.new w 3 #[]) (Nat.le_refl _) (by omega) rfl rfl
   go_enter Tryz.func181,Tryz.ntmps181
   go_wp2_with (at_builtin;refine elemInts.wp_app rfl _ _ rfl w.heap.size _ 0 [] rfl ho (some ad) n c (VS xs) rfl hr (ZAm _) (by omega) (by omega) (by simp) ?_)
   intro v' w' hown hk _ _
   go_wp2
   go_ret
   exact⟨_,rfl,by simpa using hown,((Keep.refl _ w).alloc _).trans hk (by simp[Value.ownBlock])⟩
theorem Ki (l:List Nat):ZP l=VS (l.map (fun(x:Nat)=>(x:Int))):=by simp[ZP,VS,i64]
theorem YAx (w:World) (d t m p g slot P:Nat) (r:PReg) (BA:Option Addr) (bc:Nat) (bz:List Nat) (OA:Option Addr) (oc:Nat) (oz:List Nat) (SA:Option Addr) (sn sc:Nat) (hb:Rd w BA P (ZP bz)) (ho:Rd w OA P (ZP oz)) (hP:P≤1000) (st:PSt) :
 Calls Tryz.prog 122 #[.pointer (some ⟨d,0,none⟩),.pointer (some ⟨t,0,none⟩),.pointer (some ⟨m,0,none⟩),.pointer (some ⟨p,0,none⟩),.pointer (some ⟨g,0,none⟩),.int .i64 (slot:Nat),
  .agg (r.cs (.slice BA P bc) (.slice OA P oc) (.slice SA sn sc)).toArray,.agg #[.int .i64 st.mode,.int .i64 st.view,.int .i64 st.epoch,.int .i64 st.seq,.int .i64 st.done,.int .i64 st.mount,.int .i64 st.gen,.int .i64 0,.int .i64 0,.int .i64 0]] w
  fun e w'=>∃ s L0 L1,e=.returned (.pointer (some ⟨s,0,none⟩))∧w.heap.size≤s ∧
   Blk w' s 111 #[.pointer (some ⟨d,0,none⟩),.pointer (some ⟨g,0,none⟩),.pointer (some ⟨t,0,none⟩),.pointer (some ⟨m,0,none⟩),.pointer (some ⟨p,0,none⟩),
    .int .i64 st.mode,.int .i64 st.view,.int .i64 st.epoch,.int .i64 st.seq,.int .i64 st.done,.int .i64 st.mount,.int .i64 st.gen,.int .i64 0,.int .i64 0,.int .i64 0,.int .i64 slot,L0,L1] ∧
   w'.ownsRow w.heap.size 3 1 L0 P (ZP bz)∧w'.ownsRow w.heap.size 3 1 L1 P (ZP oz)∧Keep [] w w':=by
 obtain⟨gen,view,mode,epoch,seq,done,⟨seg,off,lsn,prev,mount⟩⟩:=r
 obtain⟨smode,sview,sepoch,sseq,sdone,smount,sgen⟩:=st
 simp only[PReg.cs,PPos.cs,List.cons_append,List.nil_append] at *
 rw[Ki] at hb ho
 rw[Ki,Ki]
 obtain⟨wA,hwA⟩:∃ wA,wA=(w.alloc (.cells #[.int .i64 gen,.int .i64 view,.int .i64 mode,.int .i64 epoch,.int .i64 seq,.int .i64 done,.int .i64 seg,.int .i64 off,.int .i64 lsn,.int .i64 prev,.int .i64 mount,.slice BA P bc,.slice OA P oc,.slice SA sn sc] 185)).alloc (.cells #[.int .i64 smode,.int .i64 sview,.int .i64 sepoch,.int .i64 sseq,.int .i64 sdone,.int .i64 smount,.int .i64 sgen,.int .i64 0,.int .i64 0,.int .i64 0] 80):=⟨_,rfl⟩
 have hkA:Keep [] w wA:=by rw[hwA];exact((Keep.refl _ _).alloc _).alloc _
 have hbR:Blk wA w.heap.size 185 #[.int .i64 gen,.int .i64 view,.int .i64 mode,.int .i64 epoch,.int .i64 seq,.int .i64 done,.int .i64 seg,.int .i64 off,.int .i64 lsn,.int .i64 prev,.int .i64 mount,.slice BA P bc,.slice OA P oc,.slice SA sn sc]:=by
  rw[hwA];exact(Blk.new w _ _).keep0 ((Keep.refl _ _).alloc _)
 have hbS:Blk wA (w.heap.size+1) 80 #[.int .i64 smode,.int .i64 sview,.int .i64 sepoch,.int .i64 sseq,.int .i64 sdone,.int .i64 smount,.int .i64 sgen,.int .i64 0,.int .i64 0,.int .i64 0]:=by
  rw[hwA]
  have:=Blk.new (w.alloc (.cells #[.int .i64 gen,.int .i64 view,.int .i64 mode,.int .i64 epoch,.int .i64 seq,.int .i64 done,.int .i64 seg,.int .i64 off,.int .i64 lsn,.int .i64 prev,.int .i64 mount,.slice BA P bc,.slice OA P oc,.slice SA sn sc] 185)) 80 #[.int .i64 smode,.int .i64 sview,.int .i64 sepoch,.int .i64 sseq,.int .i64 sdone,.int .i64 smount,.int .i64 sgen,.int .i64 0,.int .i64 0,.int .i64 0]
  rw[show ∀ o,(w.alloc o).heap.size=w.heap.size+1 from fun o=>by simp] at this
  exact this
 go_enter Tryz.func122,Tryz.ntmps122
 go_wp2_with fail
 rw[← hwA]
 clear hwA
 have hC0:=Vs BA P bc _ wA.drew (hb.keep hkA.drew) (by omega)
 refine ZT (fun w'=>w'.cell? ⟨w.heap.size+1,0,none⟩=some (.int .i64 smode)∧w'.cell? ⟨w.heap.size+1,1,none⟩=some (.int .i64 sview)∧w'.cell? ⟨w.heap.size+1,2,none⟩=some (.int .i64 sepoch)∧w'.cell? ⟨w.heap.size+1,3,none⟩=some (.int .i64 sseq)∧w'.cell? ⟨w.heap.size+1,4,none⟩=some (.int .i64 sdone)∧w'.cell? ⟨w.heap.size+1,5,none⟩=some (.int .i64 smount)∧w'.cell? ⟨w.heap.size+1,6,none⟩=some (.int .i64 sgen)∧w'.cell? ⟨w.heap.size+1,7,none⟩=some (.int .i64 0)∧w'.cell? ⟨w.heap.size+1,8,none⟩=some (.int .i64 0)∧w'.cell? ⟨w.heap.size+1,9,none⟩=some (.int .i64 0)∧w'.cell? ⟨w.heap.size,11,none⟩=some (.slice BA P bc)∧w'.cell? ⟨w.heap.size,12,none⟩=some (.slice OA P oc)) 14 [[0,1,2,3,4,5,6,7,8,10,11],[9],[12,13]] ⟨(by simpa using(hbS.drew).cell 0),(by simpa using(hbS.drew).cell 1),(by simpa using(hbS.drew).cell 2),(by simpa using(hbS.drew).cell 3),(by simpa using(hbS.drew).cell 4),(by simpa using(hbS.drew).cell 5),(by simpa using(hbS.drew).cell 6),(by simpa using(hbS.drew).cell 7),(by simpa using(hbS.drew).cell 8),(by simpa using(hbS.drew).cell 9),(by simpa using(hbR.drew).cell 11),(by simpa using(hbR.drew).cell 12)⟩ ?_
 simp only[PI]
 iterate 11 (refine ZH ?_;simp only[Act.put,PU])
 refine XB (by rfl) (fun K hK=>?_)
 go_wp2_with (refine hC0.mono ?_;clear hC0;rintro e w1 ⟨v1,rfl,hv1,hk1⟩)
 have hkB:Keep [] wA w1:=(Keep.refl _ _).drew.trans0 hk1
 have hC1:=Vs OA P oc _ w1 (ho.keep (hkA.trans0 hkB)) (by omega)
 obtain⟨VA1,vc1,rfl,_⟩:=QB hv1
 refine hK _ _ (⟨(by simpa using(hbS.keep0 hkB).cell 0),(by simpa using(hbS.keep0 hkB).cell 1),(by simpa using(hbS.keep0 hkB).cell 2),(by simpa using(hbS.keep0 hkB).cell 3),(by simpa using(hbS.keep0 hkB).cell 4),(by simpa using(hbS.keep0 hkB).cell 5),(by simpa using(hbS.keep0 hkB).cell 6),(by simpa using(hbS.keep0 hkB).cell 7),(by simpa using(hbS.keep0 hkB).cell 8),(by simpa using(hbS.keep0 hkB).cell 9),(by simpa using(hbR.keep0 hkB).cell 11),(by simpa using(hbR.keep0 hkB).cell 12)⟩) ?_
 clear hK K
 try simp only[Act.put,PU]
 refine XB (by rfl) (fun K hK=>?_)
 go_wp2_with (refine hC1.mono ?_;clear hC1;rintro e w2 ⟨v2,rfl,hv2,hk2⟩)
 have hkC:Keep [] wA w2:=hkB.trans0 hk2
 obtain⟨VA2,vc2,rfl,_⟩:=QB hv2
 refine hK _ _ (⟨(by simpa using(hbS.keep0 hkC).cell 0),(by simpa using(hbS.keep0 hkC).cell 1),(by simpa using(hbS.keep0 hkC).cell 2),(by simpa using(hbS.keep0 hkC).cell 3),(by simpa using(hbS.keep0 hkC).cell 4),(by simpa using(hbS.keep0 hkC).cell 5),(by simpa using(hbS.keep0 hkC).cell 6),(by simpa using(hbS.keep0 hkC).cell 7),(by simpa using(hbS.keep0 hkC).cell 8),(by simpa using(hbS.keep0 hkC).cell 9),(by simpa using(hbR.keep0 hkC).cell 11),(by simpa using(hbR.keep0 hkC).cell 12)⟩) ?_
 clear hK K
 try simp only[Act.put,PU]
 iterate 1 (refine ZH ?_;simp only[Act.put,PU])
 refine JB ?_
 have hv1':=VC (ZA hv1 hk2) (show w.heap.size≤wA.drew.heap.size from hkA.size)
 have hv2':=VC hv2 (show w.heap.size≤w1.heap.size from Nat.le_trans hkA.size hkB.size)
 go_wp2_with fail
 go_ret
 refine⟨_,_,_,rfl,Nat.le_trans hkA.size hkC.size,Blk.new _ _ _,YD hv1' _,YD hv2' _,(hkA.trans0 hkC).alloc _⟩
end
section
open Go.RowKit
def YBC (B:Nat) (o:POp):Prop:=
 (o.k=1∧0≤o.b∧o.b<B∧o.d.length=64)∨(o.k=2∧0≤o.b∧1≤o.c∧o.b+o.c≤B)∨(o.k=3∧1≤o.e∧o.e≤2147483647)
def Does (B:Nat) (S:PS) (o:POp) (S':PS):Prop:=
 (o.k=1∧Wrote B S o.b.toNat o.d S')∨(o.k=2∧Trimmed B S o.b.toNat o.c.toNat S')∨(o.k=3∧o.e=S.st.epoch+1∧Marked B S o.e.toNat S')
theorem Good.mono {B:Nat} {S:PS} {k k' j j':Nat} (h:Good B S k j) (hk:k≤k') (hj:j≤j'):Good B S k' j':=
 ⟨h.cap.mono hk hj,h.now,h.many,h.flt,h.flen,h.b1,h.b64,h.bl,h.ol,h.brefs,h.orefs,Nat.le_trans h.seq hj,Nat.le_trans h.epoch hj,h.done⟩
def VBE (st:PSt) (o:POp):PSt:=if o.k=3 then { st with epoch:=st.epoch+1,seq:=st.seq+1,done:=st.seq+1 } else { st with seq:=st.seq+1 }
theorem Does.good {B:Nat} {S S':PS} {o:POp} {k j:Nat} (h:Does B S o S') (ho:YBC B o) (hg:Good B S k j) (hk:k≤50) (hj:j≤100000):Good B S' (k+1) (j+2)∧S'.st=VBE S.st o:=by
 rcases h with⟨h1,h2⟩ | ⟨h1,h2⟩ | ⟨h1,h2,h3⟩
 · rcases ho with⟨_,o1,o2,o3⟩ | ⟨o0,_⟩ | ⟨o0,_⟩
   · obtain⟨g1,_,_,g4⟩:=h2.good hg hk (by omega) o3
     exact⟨g1.mono (Nat.le_refl _) (by omega),by rw[g4,VBE,if_neg (by omega)]⟩
   · omega
   · omega
 · rcases ho with⟨o0,_⟩ | ⟨_,o1,o2,o3⟩ | ⟨o0,_⟩
   · omega
   · obtain⟨g1,_,_,g4⟩:=h2.good hg hk (by omega) (by omega)
     exact⟨g1.mono (Nat.le_refl _) (by omega),by rw[g4,VBE,if_neg (by omega)]⟩
   · omega
 · have he:=hg.epoch
   obtain⟨g1,_,_,g4⟩:=h3.good hg hk (by omega) hj
   have e:o.e.toNat=S.st.epoch+1:=by omega
   exact⟨g1.mono (Nat.le_refl _) (by omega),by rw[g4,VBE,if_pos h1,e]⟩
structure RS where
 S:PS
 next:Nat
 sl:List PSlot
def RS.cur (R:RS):PSlot:=R.sl.getD (R.next % R.sl.length) PSlot.none_
def RS.cut (R:RS):List PSlot:=R.sl.set (R.next % R.sl.length) PSlot.none_
inductive Ran (B:Nat):RS→RS→Nat→Prop
 | stop {R:RS}:R.cur.is=false→Ran B R R 0
 | bad {R:RS}:R.cur.is=true→R.cur.o.k=3→R.cur.o.e≠R.S.st.epoch+1→Ran B R ⟨R.S,R.next,R.cut⟩ 1
 | step {R R':RS} {S':PS} {e:Nat}:R.cur.is=true→Does B R.S R.cur.o S'→Ran B ⟨S',R.next+1,R.cut⟩ R' e→Ran B R R' e
end
section
open Go.RowKit
def JJ (B s:Nat) (a:Int):Bool:=decide (0<a) && ((a.toNat-(6+4*pgs B)) / 24 == s)
theorem QAf {B s:Nat} {a:Int} (h:JJ B s a=true):0<a∧(a.toNat-(6+4*pgs B)) / 24=s:=by
 simpa [JJ] using h
theorem QI {B s:Nat} {a:Int} (h:a≤0):JJ B s a=false:=by
 unfold JJ
 rw[decide_eq_false (by omega)];rfl
def Qd (B:Nat) (I:PImage) (s:Nat):Nat:=I.bl.countP (JJ B s)+I.ol.countP (JJ B s)
structure LiveOk (B:Nat) (lv:List Nat) (I:PImage):Prop where
 len:lv.length=8
 live:∀ s<8,lv.getD s 0=Qd B I s
 diff:∀ i,0<I.ol.getD i 0→I.ol.getD i 0≠I.bl.getD i 0
structure Ext (B:Nat) (S:PS):Prop where
 segs:VZ S.us S.W.pos.seg
 liv:LiveOk B S.lv S.I
 slot:S.slot≤1
 lie0:∀ x∈S.lie0,x≤1
 lie1:∀ x∈S.lie1,x≤1
theorem Ya (lv:List Nat) (s:Nat) (z:Int):(YH lv s z).length=lv.length:=by simp[YH]
theorem Ys (lv:List Nat) (s k:Nat) (hl:lv.getD s 0≤1000000) (hs:s<lv.length):(YH lv s 1).getD k 0=lv.getD k 0+if k=s then 1 else 0:=by
 unfold YH
 rw[List.getD_eq_getElem?_getD,List.getElem?_set]
 by_cases h:k=s
 · subst h
   rw[if_pos rfl,if_pos hs,if_pos rfl,if_neg (by omega)]
   simp only[Option.getD_some]
   omega
 · rw[if_neg (by omega),if_neg h,← List.getD_eq_getElem?_getD];rfl
theorem QAC (lv:List Nat) (s k:Nat) (hk:k<lv.length) (hl:lv.getD s 0≤1000000):(YH lv s (-1)).getD k 0=lv.getD k 0-if s=k then 1 else 0:=by
 unfold YH
 rw[List.getD_eq_getElem?_getD,List.getElem?_set]
 by_cases h:s=k
 · subst h
   rw[if_pos rfl,if_pos hk,if_pos rfl,if_neg (by omega)]
   simp only[Option.getD_some]
   omega
 · rw[if_neg (by omega),if_neg h,← List.getD_eq_getElem?_getD];rfl
theorem QAA {B:Nat} (zs:List Int) (lv:List Nat) (h8:lv.length=8) (hm:∀ k,lv.getD k 0≤1000000) :
 (zs.foldl (fun lv x=>if 0<x then YH lv ((x.toNat-(6+4*pgs B)) / 24) (-1) else lv) lv).length=8∧∀ k<8,(zs.foldl (fun lv x=>if 0<x then YH lv ((x.toNat-(6+4*pgs B)) / 24) (-1) else lv) lv).getD k 0=lv.getD k 0-zs.countP (JJ B k):=by
 induction zs generalizing lv with
 | nil=>exact⟨h8,fun k hk=>by simp⟩
 | cons z zs ih=>
   simp only[List.foldl_cons]
   by_cases hz:0<z
   · rw[if_pos hz]
     have hd:=QAC lv ((z.toNat-(6+4*pgs B)) / 24)
     obtain⟨i1,i2⟩:=ih (YH lv ((z.toNat-(6+4*pgs B)) / 24) (-1)) (by rw[Ya];exact h8) (fun k=>by
      by_cases hk:k<lv.length
      · rw[hd k hk (hm _)];have:=hm k;omega
      · rw[List.getD_eq_getElem?_getD,List.getElem?_eq_none (by rw[Ya];omega)];simp)
     refine⟨i1,fun k hk=>?_⟩
     rw[i2 k hk,hd k (by omega) (hm _),List.countP_cons]
     unfold JJ
     rw[decide_eq_true hz]
     simp only[Bool.true_and,beq_iff_eq]
     split <;> omega
   · rw[if_neg hz]
     obtain⟨i1,i2⟩:=ih lv h8 hm
     refine⟨i1,fun k hk=>?_⟩
     rw[i2 k hk,List.countP_cons,QI (by omega)]
     simp
theorem Vm {B:Nat} {lv:List Nat} {a:Nat} {zs:List Int} (h8:lv.length=8) (hm:∀ k,lv.getD k 0≤1000) (ha:(a-(6+4*pgs B)) / 24<8) :
 (Za B lv a zs).length=8∧∀ k<8,(Za B lv a zs).getD k 0=lv.getD k 0+(if JJ B k (a:Nat) then 1 else 0)-zs.countP (JJ B k):=by
 unfold Za
 by_cases h0:a=0
 · subst h0
   rw[if_pos rfl]
   obtain⟨i1,i2⟩:=QAA (B:=B) zs lv h8 (fun k=>by have:=hm k;omega)
   refine⟨i1,fun k hk=>?_⟩
   rw[i2 k hk,QI (by omega)]
   simp
 · rw[if_neg h0]
   have hu:=fun k=>Ys lv ((a-(6+4*pgs B)) / 24) k (by have:=hm ((a-(6+4*pgs B)) / 24);omega) (by omega)
   obtain⟨i1,i2⟩:=QAA (B:=B) zs (YH lv ((a-(6+4*pgs B)) / 24) 1) (by rw[Ya];exact h8) (fun k=>by rw[hu];have:=hm k;split <;> omega)
   refine⟨i1,fun k hk=>?_⟩
   rw[i2 k hk,hu]
   unfold JJ
   rw[decide_eq_true (by omega)]
   simp only[Bool.true_and,beq_iff_eq,Int.toNat_natCast]
   congr 2
   by_cases e:k=(a-(6+4*pgs B)) / 24
   · rw[if_pos e,if_pos e.symm]
   · rw[if_neg e,if_neg (fun h=>e h.symm)]
theorem JAo {B:Nat} {S:PS} {k j s:Nat} (hg:Good B S k j) (hs:(S.us.getD s (0,0)).1=0):Qd B S.I s=0:=by
 have key:∀ x:Int,x = -1∨RefOk B S x→JJ B s x=false:=by
  intro x hx
  by_cases h:JJ B s x=true
  · obtain⟨h1,h2⟩:=QAf h
    rcases hx with rfl | rfl | ⟨_,hl⟩
    · omega
    · omega
    · have:=hl.used
      rw[h2] at this
      exact absurd hs this
  · simpa using h
 unfold Qd
 rw[List.countP_eq_zero.2 (fun x hx=>by rw[key x (.inr (hg.brefs x hx))];simp),List.countP_eq_zero.2 (fun x hx=>by rw[key x (hg.orefs x hx)];simp)]
theorem KAz {B:Nat} {S:PS} {k j:Nat} (hg:Good B S k j) (s:Nat):Qd B S.I s≤128:=by
 unfold Qd
 have h1:=List.countP_le_length (p:=JJ B s) (l:=S.I.bl)
 have h2:=List.countP_le_length (p:=JJ B s) (l:=S.I.ol)
 have:=hg.bl;have:=hg.ol;have:=hg.b64
 omega
theorem LiveOk.small {B:Nat} {S:PS} {k j:Nat} (h:LiveOk B S.lv S.I) (hg:Good B S k j) (s:Nat):S.lv.getD s 0≤1000:=by
 by_cases hs:s<8
 · rw[h.live s hs];have:=KAz hg s;omega
 · rw[List.getD_eq_getElem?_getD,List.getElem?_eq_none (by have:=h.len;omega)];simp
theorem Vy {us:List (Nat×Nat)} {s t x:Nat} (h:VZ us s) (hx:x≤2147483647):VZ (QF us t x) s:=by
 obtain⟨h1,h2,h3⟩:=h
 unfold QF
 refine⟨by simpa using h1,fun u hu=>?_,fun k hk=>?_⟩
 · rcases List.mem_or_eq_of_mem_set hu with hu | rfl
   · exact h2 u hu
   · refine⟨?_,hx⟩
     simp only
     by_cases ht:t<us.length
     · rw[QJ ht];exact(h2 _ (List.getElem_mem _)).1
     · rw[List.getD_eq_getElem?_getD,List.getElem?_eq_none (by omega)];simp
 · rw[List.getElem_set]
   split
   · rename_i e
     subst e
     simp only[List.length_set] at hk
     rw[QJ hk]
     exact h3 t hk
   · exact h3 k (by simpa using hk)
theorem Emitted.segs {B:Nat} {D D':PDisk} {us us':List (Nat×Nat)} {W W':PW} {s:Nat} (hE:Emitted B D us W D' us' W') (h:VZ us s) (hl:W.pos.lsn≤2147483647):VZ us' s:=by
 rcases hE with⟨_,_,rfl,_⟩ | ⟨_,D1,W1,rs,sum,_,_,_,_,rfl,_⟩
 · exact h
 · exact Vy h hl
theorem Added.ext {B:Nat} {S:PS} {D':PDisk} {us':List (Nat×Nat)} {lv':List Nat} {W':PW} {k j a:Nat} {i:PItem} {bs:List UInt8} (hA:Added B S.D S.us S.lv S.W i bs D' us' lv' W' a) (hg:Good B S k j) (hk:k≤50) (hj:j≤100000) (hx:Ext B S) :
 VZ us' W'.pos.seg∧LiveOk B lv' S.I:=by
 obtain⟨W1,hR,rfl,ha⟩:=hA
 have hlsn:=hg.cap.lsn
 have hm:ZV i≤1:=by unfold ZV;split <;> omega
 rcases hR with⟨hf,rfl,rfl,rfl,rfl⟩ | ⟨hnf,hf,hE,rfl⟩ | ⟨hnf,hf,rfl,D1,us1,W2,hE,hT⟩
 · exact⟨hx.segs,hx.liv⟩
 · refine⟨?_,hx.liv⟩
   have hs:=hE.segs hx.segs (by omega)
   obtain⟨_,_,e3,_⟩:=hg.cap.emitted hE
   simp only
   rw[e3];exact hs
 · have hfree:=hg.cap.free hk hm hf
   obtain⟨g1,g2⟩:=ZO S.us (by omega)
   have hul:=hg.cap.ul
   have hsg:=hg.cap.seg
   have hl:=hx.liv.len
   refine⟨?_,⟨by simpa using hl,fun s hs=>?_,hx.liv.diff⟩⟩
   · obtain⟨rs,hd,sum,t1,t2,t3,rfl,rfl,rfl⟩:=hT
     obtain⟨f1,f2,f3,f4,f5,f6,f7,f8,f9,f10,f11,f12⟩:=hE.facts hg.cap.ok
     simp only
     obtain⟨h1,h2,h3⟩:=hx.segs
     have hul1:us1.length=8:=by rcases f10 with rfl | rfl <;> simpa using hul
     have hlsn2:W2.pos.lsn≤S.W.pos.lsn+1:=f6
     have hst:∀ q<8,(us1.getD q (0,0)).1=((VE S.us (VB S.us) 1).getD q (0,0)).1:=by
      intro q hq
      rcases f10 with rfl | rfl
      · rfl
      · rw[QG]
     have hne:S.W.pos.seg≠VB S.us:=by
      intro e
      have:=hg.cap.opn
      rw[e,g2] at this
      omega
     have hstp:∀ u∈us1,u.1≤2∧u.2≤2147483647:=by
      have h0:∀ u∈VE S.us (VB S.us) 1,u.1≤2∧u.2≤2147483647:=by
       intro u hu
       unfold VE at hu
       rcases List.mem_or_eq_of_mem_set hu with hu | rfl
       · exact h2 u hu
       · refine⟨by simp,?_⟩
         simp only
         rw[QJ g1];exact(h2 _ (List.getElem_mem _)).2
      rcases f10 with rfl | rfl
      · exact h0
      · intro u hu
        unfold QF at hu
        rcases List.mem_or_eq_of_mem_set hu with hu | rfl
        · exact h0 u hu
        · refine⟨?_,by simp only;omega⟩
          simp only
          rw[QJ (by simp[VE];omega)]
          exact(h0 _ (List.getElem_mem _)).1
     refine⟨by simp[VE,QF];exact hul1,?_,?_⟩
     · intro u hu
       unfold VE at hu
       rcases List.mem_or_eq_of_mem_set hu with hu | rfl
       · unfold QF at hu
         rcases List.mem_or_eq_of_mem_set hu with hu | rfl
         · exact hstp u hu
         · refine⟨?_,by simp only;omega⟩
           simp only
           rw[QJ (by omega)]
           exact(hstp _ (List.getElem_mem _)).1
       · refine⟨by simp,?_⟩
         simp only
         rw[QJ (by simp[QF];omega)]
         unfold QF
         rw[List.getElem_set_self]
         simp only
         omega
     · intro q hq
       have hq8:q<8:=by simpa [VE,QF,hul1] using hq
       rw[← QJ hq,ZF _ _ _ _ (by simp[QF];omega),QG,hst q hq8,ZF _ _ _ _ g1]
       rw[f3]
       by_cases e:q=S.W.pos.seg
       · rw[if_pos e]
         subst e
         constructor
         · intro h;omega
         · intro h;exact absurd h hne
       · rw[if_neg e]
         by_cases e2:q=VB S.us
         · rw[if_pos e2];simp[e2]
         · rw[if_neg e2]
           rw[QJ (by omega),h3 q (by omega)]
           constructor
           · intro h;exact absurd h e
           · intro h;exact absurd h e2
   · rw[List.getD_eq_getElem?_getD,List.getElem?_set]
     split
     · rename_i e
       subst e
       rw[if_pos (by omega)]
       exact(JAo hg g2).symm
     · rw[← List.getD_eq_getElem?_getD]
       exact hx.liv.live s hs
theorem Zj {p:Int→Bool} {l:List Int} {i:Nat} {a:Int} (hi:i<l.length):(l.set i a).countP p+(if p l[i] then 1 else 0)=l.countP p+if p a then 1 else 0:=by
 have:=List.countP_set (p:=p) (l:=l) (i:=i) (a:=a) hi
 have h2:(if p l[i] then 1 else 0)≤l.countP p:=by
  split
  · exact List.countP_pos_iff.2 ⟨l[i],List.getElem_mem _,by assumption⟩
  · omega
 omega
theorem Ql {B s:Nat} {x z:Int} (h:0<x→x≠z):JJ B s (YF x z)=JJ B s x:=by
 unfold YF
 by_cases hx:0<x
 · rw[if_neg (h hx),show max x 0=x by omega]
 · rw[QI (a:=x) (by omega)]
   split
   · exact QI (by omega)
   · exact QI (by omega)
theorem Wrote.ext {B:Nat} {S S':PS} {b:Nat} {bs:List UInt8} {k j:Nat} (h:Wrote B S b bs S') (hg:Good B S k j) (hk:k≤50) (hj:j≤100000) (hb:b<B) (hx:Ext B S):Ext B S':=by
 obtain⟨D',us',lv1,W',a,hA,rfl⟩:=h
 obtain⟨hs,hl⟩:=hA.ext hg hk hj hx
 obtain⟨r1,r2,r3,r4,r5⟩:=hA.reads hg.cap hk hg.now hg.many
 obtain⟨ra,rb⟩:=r5 rfl
 have ha0:0<a:=by have:=ra.lo;omega
 have ha8:(a-(6+4*pgs B)) / 24<8:=by have:=ra.hi;omega
 have hol:=hg.ol
 have hne:∀ x:Int,x = -1∨RefOk B S x→0<x→x≠(a:Nat):=by
  intro x hx h0
  rcases hx with rfl | rfl | ⟨_,hy⟩
  · omega
  · omega
  · have:=(r4 _ hy).2.2 rfl
    omega
 have hm:=fun s=>LiveOk.small (S:={ S with lv:=lv1 }) hl ⟨hg.cap,hg.now,hg.many,hg.flt,hg.flen,hg.b1,hg.b64,hg.bl,hg.ol,hg.brefs,hg.orefs,hg.seq,hg.epoch,hg.done⟩ s
 obtain⟨l1,l2⟩:=Vm (B:=B) (zs:=[YF (S.I.ol.getD b 0) a]) hl.len hm ha8
 refine⟨hs,⟨l1,fun s hs=>?_,fun i hi=>?_⟩,hx.slot,hx.lie0,hx.lie1⟩
 · rw[l2 s hs,hl.live s hs]
   unfold Qd
   simp only
   have hc:=Zj (p:=JJ B s) (l:=S.I.ol) (i:=b) (a:=(a:Nat)) (by omega)
   have hbo:S.I.ol.getD b 0=S.I.ol[b]:=Xm (by omega)
   rw[List.countP_cons,List.countP_nil,hbo,Ql (fun h0=>hne _ (hg.orefs _ (List.getElem_mem _)) h0)]
   have h2:(if JJ B s S.I.ol[b] then 1 else 0)≤S.I.ol.countP (JJ B s):=by
    split
    · exact List.countP_pos_iff.2 ⟨S.I.ol[b],List.getElem_mem _,by assumption⟩
    · omega
   omega
 · simp only at hi ⊢
   rw[List.getD_eq_getElem?_getD,List.getElem?_set] at hi ⊢
   split
   · rename_i e
     subst e
     rw[if_pos (by omega)]
     simp only[Option.getD_some]
     intro he
     have hbl:=hg.bl
     rw[Xm (by omega)] at he
     exact hne _ (.inr (hg.brefs _ (List.getElem_mem _))) (by rw[← he];omega) he.symm
   · rename_i e
     rw[if_neg e,← List.getD_eq_getElem?_getD] at hi
     rw[← List.getD_eq_getElem?_getD]
     exact hx.liv.diff i hi
theorem VAQ (B s b n:Nat) (l:List Int) (ds:List Bool) (hb:b+n≤l.length):(QM b n l ds).2.1.countP (JJ B s)+(QM b n l ds).1.countP (JJ B s)=l.countP (JJ B s):=by
 induction n with
 | zero=>simp[QM]
 | succ n ih=>
   rw[Va]
   unfold Qc
   simp only
   have hlen:=(QT b n l ds).1
   have hlt:b+n<(QM b n l ds).2.1.length:=by omega
   have hc:=Zj (p:=JJ B s) (a:=0) hlt
   rw[List.countP_append,Xm hlt]
   have hz:JJ B s 0=false:=QI (by omega)
   rw[hz] at hc
   have h2:(if 0<YF (QM b n l ds).2.1[b+n] 0 then [YF (QM b n l ds).2.1[b+n] 0] else []).countP (JJ B s)=if JJ B s (QM b n l ds).2.1[b+n] then 1 else 0:=by
    rw[← Ql (z:=0) (fun h=>by omega)]
    generalize YF (QM b n l ds).2.1[b+n] 0=g
    by_cases hg:0<g
    · rw[if_pos hg];simp[List.countP_cons]
    · rw[if_neg hg,QI (by omega)];simp
   have:=ih (by omega)
   rw[h2]
   simp at hc
   omega
theorem Trimmed.ext {B:Nat} {S S':PS} {b n:Nat} {k j:Nat} (h:Trimmed B S b n S') (hg:Good B S k j) (hk:k≤50) (hj:j≤100000) (hb:b+n≤B) (hx:Ext B S):Ext B S':=by
 obtain⟨D',us',lv1,W',a,hA,rfl⟩:=h
 obtain⟨hs,hl⟩:=hA.ext hg hk hj hx
 have hol:=hg.ol
 have hm:=fun s=>LiveOk.small (S:={ S with lv:=lv1 }) hl ⟨hg.cap,hg.now,hg.many,hg.flt,hg.flen,hg.b1,hg.b64,hg.bl,hg.ol,hg.brefs,hg.orefs,hg.seq,hg.epoch,hg.done⟩ s
 obtain⟨l1,l2⟩:=Vm (B:=B) (a:=0) (zs:=(QM b n S.I.ol S.I.od).1) hl.len hm (by omega)
 refine⟨hs,⟨l1,fun s hs=>?_,fun i hi=>?_⟩,hx.slot,hx.lie0,hx.lie1⟩
 · rw[l2 s hs,hl.live s hs]
   unfold Qd
   simp only
   have hc:=VAQ B s b n S.I.ol S.I.od (by omega)
   rw[QI (a:=((0:Nat):Int)) (by omega)]
   simp only[Bool.false_eq_true,if_false]
   omega
 · simp only at hi ⊢
   rw[List.getD_eq_getElem?_getD,Yf] at hi ⊢
   split
   · rename_i e
     rw[if_pos e] at hi
     simp at hi
   · rename_i e
     rw[if_neg e,← List.getD_eq_getElem?_getD] at hi
     rw[← List.getD_eq_getElem?_getD]
     exact hx.liv.diff i hi
theorem VAy (B s:Nat) (bl ol:List Int) (hl:bl.length=ol.length) (hd:∀ i,0<ol.getD i 0→ol.getD i 0≠bl.getD i 0) (hr:∀ x∈ol,-1≤x) :
 (List.zipWith (fun b o=>if o = -1 then b else o) bl ol).countP (JJ B s)+((bl.zip ol).flatMap (fun p=>if p.2 = -1 then [] else if 0<YF p.1 p.2 then [YF p.1 p.2] else [])).countP (JJ B s)=bl.countP (JJ B s)+ol.countP (JJ B s):=by
 induction bl generalizing ol with
 | nil=>
   cases ol with
   | nil=>rfl
   | cons o ol=>simp at hl
 | cons b bl ih=>
   cases ol with
   | nil=>simp at hl
   | cons o ol=>
     have hi:=ih ol (by simpa using hl) (fun i hi=>by simpa using hd (i+1) (by simpa using hi)) (fun x hx=>hr x (by simp[hx]))
     have h0:=hd 0
     simp only[List.getD_cons_zero] at h0
     have hro:=hr o (by simp)
     rw[List.zipWith_cons_cons,List.zip_cons_cons,List.flatMap_cons,List.countP_cons,List.countP_cons,List.countP_cons,List.countP_append]
     by_cases ho:o = -1
     · subst ho
       rw[if_pos rfl,QI (a := -1) (by omega)]
       simp
       omega
     · rw[if_neg ho]
       simp only[if_neg ho]
       have hg:JJ B s (YF b o)=JJ B s b:=Ql (fun hb e=>by subst e;exact h0 hb rfl)
       rw[← hg]
       generalize YF b o=g
       by_cases hgp:0<g
       · rw[if_pos hgp,List.countP_cons,List.countP_nil];omega
       · rw[if_neg hgp,QI (a:=g) (by omega)];simp;omega
theorem Marked.ext {B:Nat} {S S':PS} {e:Nat} {k j:Nat} (h:Marked B S e S') (hg:Good B S k j) (hk:k≤50) (hj:j≤100000) (he:1≤e∧e≤j+1) (hx:Ext B S):Ext B S':=by
 obtain⟨D1,us1,lv1,W1,a,D2,us2,W2,bd,od,hA,hE,rfl⟩:=h
 have hmay:PItem.May ⟨3,0,0,e⟩:=.inr (.inr (.inl ⟨rfl,rfl,rfl,he.1,by simp only;omega⟩))
 have hc:=hg.cap.added hk hmay (fun h=>by cases h) hA
 obtain⟨hs,hl⟩:=hA.ext hg hk hj hx
 obtain⟨_,_,e3,_⟩:=hc.emitted hE
 have hlsn:=hc.lsn
 have hs2:=hE.segs hs (by omega)
 have hol:=hg.ol
 have hbl:=hg.bl
 have hlen:S.I.bl.length=S.I.ol.length:=by omega
 have hm:=fun s=>LiveOk.small (S:={ S with lv:=lv1 }) hl ⟨hg.cap,hg.now,hg.many,hg.flt,hg.flen,hg.b1,hg.b64,hg.bl,hg.ol,hg.brefs,hg.orefs,hg.seq,hg.epoch,hg.done⟩ s
 obtain⟨l1,l2⟩:=Vm (B:=B) (a:=0) (zs:=Zp S.I.bl S.I.ol S.I.ol.length) hl.len hm (by omega)
 refine⟨by simp only;rw[e3];exact hs2,⟨l1,fun s hs=>?_,fun i hi=>?_⟩,hx.slot,hx.lie0,hx.lie1⟩
 · rw[l2 s hs,hl.live s hs]
   unfold Qd
   simp only
   have hc:=VAy B s S.I.bl S.I.ol hlen hl.diff (fun x hx=>by
    rcases hg.orefs x hx with rfl | rfl | ⟨h,_⟩ <;> omega)
   rw[Zc hlen,XY,QI (a:=((0:Nat):Int)) (by omega)]
   unfold Zp
   rw[List.take_of_length_le (by simp;omega),List.countP_replicate,QI (a := -1) (by omega)]
   simp only[Bool.false_eq_true,if_false]
   omega
 · simp only at hi ⊢
   rw[XY,List.getD_eq_getElem?_getD,List.getElem?_replicate] at hi
   split at hi <;> simp at hi
theorem Does.ext {B:Nat} {S S':PS} {o:POp} {k j:Nat} (h:Does B S o S') (ho:YBC B o) (hg:Good B S k j) (hk:k≤50) (hj:j≤100000) (hx:Ext B S):Ext B S':=by
 rcases h with⟨h1,h2⟩ | ⟨h1,h2⟩ | ⟨h1,h2,h3⟩
 · rcases ho with⟨_,o1,o2,o3⟩ | ⟨o0,_⟩ | ⟨o0,_⟩
   · exact h2.ext hg hk hj (by omega) hx
   · omega
   · omega
 · rcases ho with⟨o0,_⟩ | ⟨_,o1,o2,o3⟩ | ⟨o0,_⟩
   · omega
   · exact h2.ext hg hk hj (by omega) hx
   · omega
 · have he:=hg.epoch
   exact h3.ext hg hk hj (by omega) hx
end
end Go.Proofs.YthgphmfipnjllaaGreat
