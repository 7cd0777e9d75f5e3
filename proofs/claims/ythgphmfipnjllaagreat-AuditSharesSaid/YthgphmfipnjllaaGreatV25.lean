/- Lemmas of the proof, with their conditions. -/
import Derived.Test.YthgphmfipnjllaaGreatV24
namespace Go.Proofs.YthgphmfipnjllaaGreat
set_option linter.unusedSimpArgs false
set_option linter.unusedVariables false
set_option maxHeartbeats 2000000
set_option maxRecDepth 100000
section
open Go.RowKit Go.Shelf
attribute [local go_sem] Oper.semAt_some
def VBF (Q:Exit→Act→World→Prop):Exit→Act→World→Prop
 | .panic _,_,_=>False
 | e,a,w=>Q e a w
theorem KY {F:Fence} {n:Nat} {P:Program} {c:Code} {K:Act→World→Prop} {Q:Exit→Act→World→Prop} {a:Act} {w:World} (h:c.wpIn F n P (Exit.then K (VBF Q)) a w):c.wpIn F n P (Exit.then K Q) a w:=
 wpIn_mono h (fun e a w h=>by cases e <;> first | exact h | exact h.elim)
theorem Kh {P:Program} {α:Type} {n:Nat} {g:Operand} {p1:Tmp} {assign body:Code} {Q:Exit→Act→World→Prop} {a:Act} {w:World} {gf:Nat} {lb:Array Value} (q:Nat) (f:α→Value)
 (hg:a.eval g=.func (.func gf) #[] lb) (eg:∀ args w,(callFunc gf args).run P w=.ok (.enter gf args) w)
 {Fx:List α→α→World→Prop} {Kp:World→World→Prop} {S:List α→Prop} (hseq:XBD (n-1) P gf lb (fun x=>#[f x]) Fx Kp S w)
 (hKt:∀ A B C,Kp A B→Kp B C→Kp A C) (hKb:∀ W l o o',w.heap.size≤l→W.heap[l]? = some o→o.isCells=false→Kp W (W.putObj l o'))
 (I:List α→World→Prop) (hIk:∀ s A B,I s A→Keep [] A B→I s B) (hIb:∀ s,Zq w.heap.size (I s)) (hFb:∀ pre x,Zq w.heap.size (Fx pre x)) (h0:I [] w)
 (hassign:∀ (l:Nat) (x:α) (W:World) (K:Act→World→Prop),K { tmps:=(a.tmps.setIfInBounds p1 (f x)).setIfInBounds q (f x),defers:=[] } W →
   assign.wpIn (Fence.wide.inRound l) (n-1-1) P (Exit.then K (fun _ _ _=>False)) { tmps:=a.tmps.setIfInBounds p1 (f x),defers:=[] } W)
 (hbody:∀ (l:Nat) (pre:List α) (x:α) (W:World),I pre W→Fx pre x W→body.wpIn (Fence.wide.inRound l) (n-1-1) P (XAW w.heap.size Kp (I (pre++[x])) W) { tmps:=(a.tmps.setIfInBounds p1 (f x)).setIfInBounds q (f x),defers:=[] } W)
 (hdone:∀ (D:Nat) (xs:List α) (W:World),w.heap.size≤D→S xs→I xs W→W.heap[D]? = some (.deferred (some []))→Q .normal { a with defers:={ target:=.collected D,args:=#[] } :: a.defers } W) :
 (Code.rangeFunc g #[p1] assign body).wpIn Fence.wide n P Q a w:=
 XT hg eg hseq hKt hKb (fun _=>rfl) I hIk hIb hFb h0 (fun x=>{ tmps:=(a.tmps.setIfInBounds p1 (f x)).setIfInBounds q (f x),defers:=[] })
  (fun l x W K hK=>by simpa using hassign l x W K hK) hbody hdone
theorem WriterIs.setPosL {w w':World} {base p d g t:Nat} {I B:Value} {ls:List (Value×List UInt8)} {F l:List Nat} {W:PW} (h:WriterIs w base p d g t I B ls F W) (P:PPos)
 (hb:Blk w' p 209 #[.pointer (some ⟨d,0,none⟩),.pointer (some ⟨g,0,none⟩),.pointer (some ⟨t,0,none⟩),.int .i64 P.seg,.int .i64 P.off,.int .i64 P.lsn,.int .i64 P.prev,.int .i64 P.mount,I,B]) (hk:Keep l w w') (ha:∀ x∈F,x≠p→x∉l) :
 WriterIs w' base p d g t I B ls F { W with pos:=P }:=
 ⟨hb,KA h.its hk fun x hx=>ha x (h.inI x (by simpa using hx)) (fun e=>h.pI (by subst e;simpa using hx)),KA h.bls hk fun x hx=>ha x (h.inB x (by simpa using hx)) (fun e=>h.pB (by subst e;simpa using hx)),
   fun q hq=>KA (h.dat q hq) hk fun x hx=>ha x (h.inQ hq x (by simpa using hx)) (fun e=>h.pQ hq (by subst e;simpa using hx)),h.snd,h.foot,h.base⟩
theorem TableAt.putObj {W:World} {base t g k:Nat} {F:List Nat} {us:List (Nat×Nat)} {lv:List Nat} {o:Obj} (h:TableAt W base t g F us lv) (o':Obj) (hl:W.heap[k]? = some o) (ho:o.isCells=false):TableAt (W.putObj k o') base t g F us lv:=by
 obtain⟨L,V,h⟩:=h
 exact⟨L,V,JG o' h.blk hl ho,ownsRow_putObj h.l o' hl ho,ownsRow_putObj h.live o' hl ho,h.foot,h.base,h.ulen,h.uok,h.lok⟩
structure KWri (w:World) (base d p:Nat) (F:List Nat) (D:PDisk) (a:Nat) (bs:List UInt8) (N b10:Nat) (pre:List Nat) (W:World):Prop where
 disk:∃ F',DiskAt W base d F' (YW D a bs pre.length)∧(∀ x∈F',x∈F∨N≤x)
 size:N≤W.heap.size
 b3:Boxed W w.heap.size 108 (.pointer (some ⟨p,0,none⟩))
 b6:Boxed W (w.heap.size+1) 31 (.int .i64 0)
 b10:Boxed W b10 3 (.int .i64 ((a+pre.length:Nat)))
 keep:Keep F w W
theorem KWri.kept {w A B:World} {base d p:Nat} {F:List Nat} {D:PDisk} {a:Nat} {bs:List UInt8} {N b10:Nat} {pre:List Nat} (h:KWri w base d p F D a bs N b10 pre A) (hk:Keep [] A B):KWri w base d p F D a bs N b10 pre B:=by
 obtain⟨F',h1,h2⟩:=h.disk
 exact⟨⟨F',h1.keep0 hk,h2⟩,Nat.le_trans h.size hk.size,JA h.b3 hk (by simp),JA h.b6 hk (by simp),JA h.b10 hk (by simp),h.keep.trans0 hk⟩
theorem KWri.turned {w W:World} {base d p:Nat} {F:List Nat} {D:PDisk} {a:Nat} {bs:List UInt8} {N b10 l:Nat} {pre:List Nat} {o o':Obj} (h:KWri w base d p F D a bs N b10 pre W) (hl:w.heap.size≤l) (hg:W.heap[l]? = some o) (ho:o.isCells=false):KWri w base d p F D a bs N b10 pre (W.putObj l o'):=by
 obtain⟨F',h1,h2⟩:=h.disk
 exact⟨⟨F',h1.putObj o' hg ho,h2⟩,by rw[World.putObj_size];exact h.size,XC o' h.b3 hg ho,XC o' h.b6 hg ho,XC o' h.b10 hg ho,h.keep.putObj hl o'⟩
theorem JAI (w:World) (base d g t p:Nat) (Fd Ft Fw:List Nat) (B:Nat) (D:PDisk) (us:List (Nat×Nat)) (lv:List Nat) (W:PW) (h:LogIs w base d g t p Fd Ft Fw B D us lv W) (ha:D.acts≤900000000)
 (ig n ic:Nat) (is:List PItem) (hrd:Rd w (some ⟨ig,0,none⟩) (n*4) (is.flatMap itc)) (hl:is.length=n) (hm:∀ i∈is,i.May) (h1:1≤n) (h6:n≤6)
 (A:Option Addr) (m bc:Nat) (ls:List (Value×List UInt8)) (hb:Rws w A m ls) (h64:∀ q∈ls,q.2.length=64) (hlo:m=YE is) (ho:1≤W.pos.off) (ho2:W.pos.off+1+m≤24) (hlsn:W.pos.lsn<2147483647) :
 Calls Tryz.prog 180 #[.pointer (some ⟨p,0,none⟩),.slice (some ⟨ig,0,none⟩) n ic,.slice A m bc] w fun e w'=>e=.returned (.int .i64 0)∧∃ Fd' s sum,RecAs W.pos.mount W.pos.lsn W.pos.prev is (ls.map (·.2)) s sum∧sum≤4294967295 ∧
  LogIs w' base d g t p Fd' Ft Fw B (YW D (YB B W.pos.seg+W.pos.off) (s++ls.flatMap (·.2)) (1+m)) (QF us W.pos.seg W.pos.lsn) lv { W with pos:=⟨W.pos.seg,W.pos.off+1+m,W.pos.lsn+1,sum,W.pos.mount⟩ }∧Keep (Fd++(Ft++[p])) w w'∧Grow w Fd Fd':=by
 obtain⟨I,Bv,ls0,hw⟩:=h.wri
 obtain⟨⟨seg,off,lsn,prev,mount⟩,items,blocks⟩:=W
 obtain⟨b1,b2,b3,b4,b5⟩:=h.pos
 have hblk:=hw.blk
 obtain⟨IA,icc,hI,_⟩:=QB hw.its
 obtain⟨BA,bcc,hBB,_⟩:=QB hw.bls
 simp only at b1 b2 b3 b4 b5 hblk ho ho2 hlsn ⊢
 rw[hI,hBB] at hblk
 have HI:=ZB hI
 have HB:=ZB hBB
 clear hI hBB
 have hm6:m≤6:=by have:=VH is;omega
 have hE:=fun W (hk:Keep [] w W)=>callsIn_wide (n:=2).2 (KAP mount lsn prev b5 b3 b4 ig n ic is A m bc ls W (hrd.keep hk) hl hm h1 h6 (hb.keep hk) h64 hlo)
 have HLO:=ZB hlo
 have HLN:=ZB hl
 clear hlo hl
 refine(callsIn_wide (n:=3)).1 ?_
 refine callsIn_of_wp_marks Tryz.func180 rfl trivial ?_ rfl
 simp only[Tryz.ntmps180,List.size_toArray,List.length_cons,List.length_nil,Nat.reduceAdd,Nat.reduceSub,Array.replicate_succ,Array.replicate_zero,List.push_toArray,List.append_toArray,List.nil_append,List.cons_append]
 gi_wp2
 obtain⟨w1,hw1⟩:∃ w1,w1=w.alloc (.cells #[.pointer (some ⟨p,0,none⟩)] 108):=⟨_,rfl⟩
 obtain⟨w2,hw2⟩:∃ w2,w2=w1.alloc (.cells #[.int .i64 0] 31):=⟨_,rfl⟩
 rw[← hw1,← hw2]
 have s1:w1.heap.size=w.heap.size+1:=by rw[hw1,World.size_alloc]
 have s2:w2.heap.size=w.heap.size+2:=by rw[hw2,World.size_alloc,s1]
 have k1:Keep [] w w1:=by rw[hw1];exact(Keep.refl _ _).alloc _
 have k2:Keep [] w1 w2:=by rw[hw2];exact(Keep.refl _ _).alloc _
 have kw2:Keep [] w w2:=k1.trans0 k2
 have b3':Boxed w2 w.heap.size 108 (.pointer (some ⟨p,0,none⟩)):=JA (by rw[hw1];exact Boxed.new w _ _) k2 (by simp)
 have b6':Boxed w2 (w.heap.size+1) 31 (.int .i64 0):=by rw[hw2,← s1];exact Boxed.new w1 _ _
 have HW1:=ZB hw1
 have HW2:=ZB hw2
 have S2:=ZB s2
 clear hw1 hw2 s1 s2 k1 k2
 have hcc:∀ W,Keep [] w2 W→W.cell? ⟨w.heap.size,0,none⟩=some (.pointer (some ⟨p,0,none⟩))∧W.cell? ⟨p,3,none⟩=some (.int .i64 seg)∧W.cell? ⟨p,5,none⟩=some (.int .i64 lsn)∧W.cell? ⟨p,6,none⟩=some (.int .i64 prev)∧W.cell? ⟨p,7,none⟩=some (.int .i64 mount)∧W.cell? ⟨p,1,none⟩=some (.pointer (some ⟨g,0,none⟩))∧W.cell? ⟨p,4,none⟩=some (.int .i64 off):=fun W hk=>by
  obtain⟨c0,c1,c2,c3,c4,c5,c6,c7,c8,c9⟩:=JD (hblk.keep0 (kw2.trans0 hk))
  exact⟨(JA b3' hk (by simp)).cell,c3,c5,c6,c7,c1,c4⟩
 refine KY (wpIn_wide.2 ?_)
 refine ZT (fun W=>W.cell? ⟨w.heap.size,0,none⟩=some (.pointer (some ⟨p,0,none⟩))∧W.cell? ⟨p,3,none⟩=some (.int .i64 seg)∧W.cell? ⟨p,5,none⟩=some (.int .i64 lsn)∧W.cell? ⟨p,6,none⟩=some (.int .i64 prev)∧W.cell? ⟨p,7,none⟩=some (.int .i64 mount)∧W.cell? ⟨p,1,none⟩=some (.pointer (some ⟨g,0,none⟩))∧W.cell? ⟨p,4,none⟩=some (.int .i64 off)) 25 [[0,1,2,3,4,5,6,7,8,9,10,11,12,13,14,15,16,17],[18,19,20,21,22,23,24]] (hcc _ (Keep.refl _ _).drew) ?_
 simp only[PI]
 iterate 18 (refine ZH ?_;simp only[Act.put,PU])
 have hE2:=callsIn_wide (n:=2).1 (hE w2.drew kw2.drew)
 clear hE
 refine XB (by rfl) (fun K hK=>?_)
 go_wp2_with (refine hE2.mono ?_;clear hE2;rintro e w3 ⟨u,rs,sum,rfl,hrl,hsum,hu,hk3⟩)
 have kA:Keep [] w2 w3:=(Keep.refl _ _).drew.trans0 hk3
 refine hK _ _ ((hcc _ kA)) ?_
 clear hK K
 try simp only[Act.put,PU]
 iterate 6 (refine ZH ?_;simp only[Act.put,PU])
 refine JB ?_
 go_wp2_with fail
 gi_wp2
 have hSg:=fun W (hk:Keep [] w W)=>VQ W g B (h.geom.keep0 hk) seg (by omega)
 have hpb:=(KC h.geom.pos h.geom.few).2
 have hmany:=h.many
 obtain⟨sa,hsa⟩:∃ sa,sa=6+4*pgs B+24*seg:=⟨_,rfl⟩
 rw[← hsa] at hSg
 have hsab:sa+24≤D.n∧sa≤300:=by omega
 have HSA:=ZB hsa
 have HMANY:=ZB hmany
 clear hsa hmany
 obtain⟨hsa1,hsa2⟩:=hsab
 refine KY (wpIn_wide.2 ?_)
 refine ZR (fun W=>W.cell? ⟨w.heap.size,0,none⟩=some (.pointer (some ⟨p,0,none⟩))∧W.cell? ⟨p,3,none⟩=some (.int .i64 seg)∧W.cell? ⟨p,5,none⟩=some (.int .i64 lsn)∧W.cell? ⟨p,6,none⟩=some (.int .i64 prev)∧W.cell? ⟨p,7,none⟩=some (.int .i64 mount)∧W.cell? ⟨p,1,none⟩=some (.pointer (some ⟨g,0,none⟩))∧W.cell? ⟨p,4,none⟩=some (.int .i64 off)) 17 (.held 0 (.held 1 (.held 2 (.held 3 (.held 4 (.held 5 (.held 6 (.held 7 (.held 8 (.held 10 (.held 11 (.held 12 (.held 13 (.held 14 (.two 9 (.held 15 (.loud 16 .nil)) 16 (.loud 9 (.held 15 .nil))))))))))))))))) (hcc _ kA.drew) ?_
 simp only[RT.pick,PJ]
 iterate 14 (refine ZK ?_;simp only[Act.put,PU])
 obtain⟨aa,haa⟩:∃ aa,aa=sa+off:=⟨_,rfl⟩
 have hcast:((sa:Nat):Int)+(off:Nat)=(aa:Nat):=by omega
 have HCAST:=ZB hcast
 have hwr:IntKind.i64.wrap ((aa:Nat):Int)=(aa:Nat):=by rw[IntKind.wrap_i64];omega
 have HWR:=ZB hwr
 clear hwr
 have HAA:=ZB haa
 clear hcast haa
 refine wpR_two ?_ ?_
 focus
  refine wpR_loud (by rfl) (fun K hK=>?_)
  go_wp2_with (refine(hSg _ (kw2.trans0 kA.drew)).mono ?_;rintro e w4 ⟨rfl,hk4⟩)
  have kB:Keep [] w2 w4:=kA.drew.trans0 hk4
  refine hK _ _ ((hcc _ kB)) ?_
  clear hK K
  try simp only[Act.put,PU]
  iterate 1 (refine ZK ?_;simp only[Act.put,PU])
  refine wpR_loud (by rfl) (fun K hK=>?_)
  go_wp2_with fail
  refine hK _ _ ((hcc _ (kB.alloc _))) ?_
  clear hK K
  try simp only[Act.put,PU]
  refine wpR_nil ?_
  have q10':=Boxed.new w4 3 (.int .i64 (aa:Nat))
  have kC':Keep [] w3 (w4.alloc (.cells #[.int .i64 (aa:Nat)] 3)):=((Keep.refl _ _).drew.trans0 hk4).alloc _
  have hb10':w2.heap.size≤w4.heap.size:=kB.size
  go_wp2_with fail
  rw[QA HCAST]
  try rw[QA HWR]
  generalize hW5:w4.alloc (.cells #[.int .i64 (aa:Nat)] 3)=W5 at q10' kC' ⊢
  generalize hB5:w4.heap.size=b10 at q10' hb10' ⊢
  clear hW5 hB5 kB hk4
 rotate_left
 focus
  refine wpR_loud (by rfl) (fun K hK=>?_)
  go_wp2_with fail
  refine hK _ _ ((hcc _ (kA.drew.alloc _))) ?_
  clear hK K
  try simp only[Act.put,PU]
  refine wpR_loud (by rfl) (fun K hK=>?_)
  go_wp2_with (refine(hSg _ (kw2.trans0 (kA.drew.alloc _))).mono ?_;rintro e w4 ⟨rfl,hk4⟩)
  have kB:Keep [] w2 w4:=(kA.drew.alloc _).trans0 hk4
  refine hK _ _ ((hcc _ kB)) ?_
  clear hK K
  try simp only[Act.put,PU]
  iterate 1 (refine ZK ?_;simp only[Act.put,PU])
  refine wpR_nil ?_
  have q9:Boxed w4 w3.heap.size 3 (.int .i64 0):=JA (Boxed.new w3.drew 3 (.int .i64 0)) hk4 (by simp)
  have qc:=q9.cell
  have qf:=q9.frozen
  have hb10':w2.heap.size≤w3.heap.size:=kA.size
  have q10':=q9.set (.int .i64 (aa:Nat))
  have kC':Keep [] w3 (w4.setCell ⟨w3.heap.size,0,none⟩ (.int .i64 (aa:Nat))):=(((Keep.refl _ _).drew.alloc _).trans0 hk4).trans ((Keep.refl [w3.heap.size] _).setCell (.inl (by simp)) _) (fun x hx=>.inr (by simp at hx;omega))
  go_wp2_with fail
  rw[QA HCAST]
  try rw[QA HWR]
  generalize hW5:w4.setCell ⟨w3.heap.size,0,none⟩ (.int .i64 (aa:Nat))=W5 at q10' kC' ⊢
  generalize hB5:w3.heap.size=b10 at q10' hb10' ⊢
  clear hW5 hB5 kB hk4 q9 qc qf
 all_goals
  have kwC:Keep [] w W5:=(kw2.trans0 kA).trans0 kC'
  have b3C:Boxed W5 w.heap.size 108 (.pointer (some ⟨p,0,none⟩)):=JA b3' (kA.trans0 kC') (by simp)
  have b6C:Boxed W5 (w.heap.size+1) 31 (.int .i64 0):=JA b6' (kA.trans0 kC') (by simp)
  have hlen:(rs++ls.flatMap (·.2)).length=64*(1+m):=by
   rw[List.length_append,hrl.len]
   have:(ls.flatMap (·.2)).length=64*ls.length:=by
    clear hu hb hcc hrl
    induction ls with
    | nil=>rfl
    | cons q ls ih=>rw[List.flatMap_cons,List.length_append,h64 q (by simp),ih (fun r hr=>h64 r (by simp[hr]))];simp;omega
   rw[this,hb.len];omega
  obtain⟨bs,hbs⟩:∃ bs,bs=rs++ls.flatMap (·.2):=⟨_,rfl⟩
  rw[← hbs] at hlen hu
  obtain⟨q,hq⟩:∃ q,q=1+m:=⟨_,rfl⟩
  rw[← hq] at hlen
  rw[hlen] at hu
  have hu5:=ZA hu kC'
  obtain⟨gu,uc,rfl,huc⟩:=ZG hu5 (by omega)
  have HBS:=ZB hbs
  have HQ:=ZB hq
  have hq7:1≤q∧q≤7:=by omega
  obtain⟨hq1,hq7⟩:=hq7
  have hoq:off+q≤24:=by omega
  have hgu2:w.heap.size+2≤gu:=by have:=(own_mem hu (g:=gu) (by simp[Value.ownBlock])).1;have:=QA S2;have:w2.drew.heap.size=w2.heap.size:=rfl;omega
  have hgul:=VAI hu5
  have hb10l:=q10'.lt
  have hS2:=QA S2
  have hb10w:w.heap.size+2≤b10:=by omega
  have hgub:gu≠b10:=fun e=>by subst e;exact q10'.not_row (by decide) hu5 (by simp[Value.ownBlock])
  have HU5:=ZB hu5
  clear hbs hq hS2 hu hcc hSg kA kC' kw2 hk3 b3' b6'
  gi_wp2_with (refine⟨trivial,?_⟩;refine(Kt _ _ _ rfl).mono ?_;rintro e w' ⟨rfl,rfl⟩)
  obtain⟨v,hv⟩:∃ v,v=Value.slice (some ⟨gu,0,none⟩) (64*q) uc:=⟨_,rfl⟩
  rw[← hv]
  have HV:=ZB hv
  obtain⟨w6,hw6⟩:∃ w6,w6=W5.alloc (.cells #[v] 39):=⟨_,rfl⟩
  obtain⟨w7,hw7⟩:∃ w7,w7=w6.alloc (.cells #[.int .i64 64] 3):=⟨_,rfl⟩
  rw[← hw6,← hw7]
  have s6:w6.heap.size=W5.heap.size+1:=by rw[hw6,World.size_alloc]
  have s7:w7.heap.size=W5.heap.size+2:=by rw[hw7,World.size_alloc,s6]
  have k6:Keep [] W5 w6:=by rw[hw6];exact(Keep.refl _ _).alloc _
  have k7:Keep [] w6 w7:=by rw[hw7];exact(Keep.refl _ _).alloc _
  have k57:Keep [] W5 w7:=k6.trans0 k7
  have kw7:Keep [] w w7:=kwC.trans0 k57
  have c1:Boxed w7 W5.heap.size 39 v:=JA (by rw[hw6];exact Boxed.new W5 _ _) k7 (by simp)
  have c2:Boxed w7 (W5.heap.size+1) 3 (.int .i64 64):=by rw[hw7,show W5.heap.size+1=w6.heap.size by omega];exact Boxed.new w6 _ _
  have hu7:=ZA hu5 k57
  have hFlt:=h.disk.lt
  have hwsz:w.heap.size+2≤W5.heap.size:=by omega
  have h0:KWri w base d p Fd D aa bs w7.heap.size b10 [] w7:=⟨⟨Fd,h.disk.keep0 kw7,fun x hx=>.inl hx⟩,Nat.le_refl _,JA b3C k57 (by simp),JA b6C k57 (by simp),JA q10' k57 (by simp),kw7.zero⟩
  have hseq:=Vf 2 W5.heap.size (W5.heap.size+1) gu 0 q uc w7 (by omega) huc (by rw[← QA HV];exact c1) c2 (by omega)
  have hgw7:w7.heap[gu]? = W5.heap[gu]? := k57.block gu hgul (by simp)
  rw[← QA HV] at hseq
  have hpF:p∉Fd:=fun hm=>h.dw _ hm hw.inP
  have S7:=ZB s7
  have HH:=ZB h
  have HWI:=ZB hw
  clear hv
  refine Kh (n:=3) (gf:=348) (lb:=#[.pointer (some ⟨W5.heap.size,0,none⟩),.pointer (some ⟨W5.heap.size+1,0,none⟩)]) 11 (fun x=>.slice (some ⟨gu,0+64*x,none⟩) 64 64) rfl (enters_of Tryz.func348 (by kernel_rfl) rfl)
   hseq
   (fun A B C h k=>⟨k.1.trans h.1,fun hb=>k.2.1 (h.2.1 hb),fun hb=>k.2.2 (h.2.2 hb)⟩)
   (fun W l o o' hl hg' ho=>⟨World.putObj_heap_other (by omega),fun hb=>XC o' hb hg' ho,fun hb=>XC o' hb hg' ho⟩)
   (KWri w base d p Fd D aa bs w7.heap.size b10) (fun s A B h hk=>h.kept hk) (fun s W l o o' h hl hg' ho=>h.turned (by omega) hg' ho)
   (fun pre x W l o o' h hl hg' ho=>⟨h.1,h.2.1,(World.putObj_heap_other (by omega)).trans h.2.2⟩) h0 ?assign ?body ?done
  case assign=>
   rintro l x W K hK
   simp only[List.setIfInBounds_toArray,List.set_cons_zero,List.set_cons_succ,Nat.zero_add] at hK
   gi_wp2
   exact hK
  case body=>
   rintro l pre x W hI ⟨hx,hxq,hgW⟩
   obtain⟨F',hD,hgr⟩:=hI.disk
   have hnot:∀ B,w.heap.size≤B→B<w7.heap.size→B∉F':=fun B h1 h2 hm=>(hgr B hm).elim (fun hm=>by have:=hFlt B hm;omega) (by omega)
   have hB3:=hnot w.heap.size (by omega) (by omega)
   have hB6:=hnot (w.heap.size+1) (by omega) (by omega)
   have hB10:=hnot b10 (by omega) (by omega)
   have hC1:=hnot W5.heap.size (by omega) (by omega)
   have hC2:=hnot (W5.heap.size+1) (by omega) (by omega)
   have hgF':=hnot gu (by omega) (by omega)
   have hcl:=hD.cells
   have hIsz:=hI.size
   have hsame:=KJ D aa bs pre.length
   have hsz:=hI.keep.size
   have hsl:(Go.Proofs.YthgphmfipnjllaaGreat.seg 64 bs x).length=64:=length_seg 64 bs x (by omega)
   have hrd:Rd W (some ⟨gu,0+64*x,none⟩) 64 (bys (Go.Proofs.YthgphmfipnjllaaGreat.seg 64 bs x)):=by
    refine⟨by simp[hsl],fun _=>⟨gu,0+64*x,rfl,by omega,fun j u hu=>?_⟩⟩
    have hj:j<64:=by have:=(List.getElem?_eq_some_iff.1 hu).1;simpa [hsl] using this
    have h1:=QK (QA HU5) (i:=64*x+j) (u:=u) (by rw[← hu,← Xw,seg_get _ _ _ _ hj,Nat.mul_comm])
    rw[show 0+64*x+j=64*x+j by omega]
    exact(World.cell?_of_block (w:=W5) (hgW.trans hgw7)).trans h1
   have hT:=(Qu W.drew base d F' _ (hD.keep0 (Keep.refl _ _).drew) (hsame.2.1.trans (QA HH).off) (hsame.2.2.1.trans (QA HH).fuse) (by rw[hsame.2.2.2.1];omega) (aa+x) (by rw[hsame.1];have:=QA HAA;omega) (some ⟨gu,0+64*x,none⟩) 64 _ hrd (fun a' ha'=>by cases ha';exact hgF') (Nat.le_trans (QA HH).le hsz))
   simp only[Nat.zero_add] at hT
   have hbp:=hblk.keep hI.keep hpF
   have p0:=(hbp.cell 0).trans (show _=some (Value.pointer (some ⟨d,0,none⟩)) from rfl)
   have hc3:=hI.b3.cell
   have hc10:=hI.b10.cell
   rw[← hx] at hc10
   obtain⟨y,hy⟩:∃ y,y=aa+x:=⟨_,rfl⟩
   rw[← hy] at hT hc10
   have hyI:((y:Nat):Int)≤4096:=by have:=QA HAA;omega
   have hpb10:p≠b10:=fun e=>by have:=hw.blk.lt;omega
   have HY:=ZB hy
   have HX:=ZB hx
   have HI':=ZB hI
   have HD':=ZB hD
   clear hy hx hI hD hsame hseq h0 c1 c2 k6 k7 k57 kw7 hw6 hw7 s6 s7 hgw7 hgW hsl hrd b3C b6C q10' hu7 kwC
   simp only[List.setIfInBounds_toArray,List.set_cons_zero,List.set_cons_succ]
   gi_wp2
   refine ZI (fun W'=>W'.cell? ⟨w.heap.size,0,none⟩=some (.pointer (some ⟨p,0,none⟩))∧W'.cell? ⟨p,0,none⟩=some (.pointer (some ⟨d,0,none⟩))∧W'.cell? ⟨b10,0,none⟩=some (.int .i64 (y:Nat))) 6 [[0,1,2,3,4,5]] ⟨hc3,p0,hc10⟩ ?_
   simp only[PI]
   iterate 6 (refine ZH ?_;simp only[Act.put,PU])
   refine JB ?_
   go_wp2_with (refine hT.mono ?_;clear hT;rintro e W2 ⟨rfl,F2,hD2,hk2,hg2⟩)
   have hI:=QA HI'
   have hk2':Keep F' W W2:=(Keep.refl [] W).drew.zero.trans hk2 (fun x hx=>.inl hx)
   have hx3:=JA hI.b3 hk2' hB3
   have hx6:=JA hI.b6 hk2' hB6
   have hx10:=JA hI.b10 hk2' hB10
   rw[← QA HX,← QA HY] at hx10
   have e10:=hx10.cell
   have f10:=hx10.frozen
   have HI':=ZB hI
   clear hI hc3 p0 hc10
   gi_wp2
   have hI:=QA HI'
   have hD:=QA HD'
   have s7:=QA S7
   have hK:Keep (b10 :: F') W (W2.setCell ⟨b10,0,none⟩ (.int .i64 ((y:Nat)+1))):=(hk2'.sub (fun x hx=>List.mem_cons_of_mem _ hx)).setCell (p:=⟨b10,0,none⟩) (.inl List.mem_cons_self) _
   have hKs:Keep [b10] W2 (W2.setCell ⟨b10,0,none⟩ (.int .i64 ((y:Nat)+1))):=(Keep.refl _ _).setCell (.inl (by simp)) _
   have hb10F2:b10∉F2:=fun hm=>(hg2 _ hm).elim hB10 (fun h=>by have h':W.heap.size≤b10:=h;omega)
   have hguW:gu<W.heap.size:=by omega
   refine⟨hK.fromCells ?_ _,⟨?_,fun hb=>JA hb hK (by simp only[List.mem_cons,not_or];exact⟨by omega,hC1⟩),fun hb=>JA hb hK (by simp only[List.mem_cons,not_or];exact⟨by omega,hC2⟩)⟩,⟨⟨F2,?_,fun x hx=>?_⟩,Nat.le_trans hIsz hK.size,?_,?_,?_,?_⟩⟩
   · intro b hb o ho
     rcases List.mem_cons.1 hb with rfl | hb
     · rw[show W.heap[_]? = _ from hI.b10] at ho;cases ho;rfl
     · exact hcl b hb o ho
   · exact hK.block gu hguW (by simp only[List.mem_cons,not_or];exact⟨hgub,hgF'⟩)
   · rw[List.length_append,List.length_singleton,Jc,← QA HX]
     rw[← QA HY]
     rw[← QA HX] at hD2
     exact hD2.keep hKs (fun x hx hm=>by simp at hm;subst hm;exact hb10F2 hx)
   · rcases hg2 x hx with hx | hx
     · exact hgr x hx
     · exact .inr (Nat.le_trans hIsz hx)
   · exact JA hx3 hKs (by simp;omega)
   · exact JA hx6 hKs (by simp;omega)
   · have:=hx10.set (.int .i64 ((y:Nat)+1))
     rw[List.length_append,List.length_singleton,← Nat.add_assoc,← QA HX,← QA HY]
     exact this
   · exact(hI.keep.trans hk2' (fun x hx=>(hgr x hx).imp id (by omega))).trans hKs (fun x hx=>.inr (by simp at hx;omega))
  case done=>
   intro D' xs W hD' hS hI hdef
   subst hS
   obtain⟨F',hD,hgr⟩:=hI.disk
   rw[List.length_range] at hD
   have s7:=QA S7
   have hsz:=hI.keep.size
   have hbp:=hblk.keep hI.keep hpF
   have htb:=(h.tab.keep hI.keep h.dt.symm)
   have hnot:∀ B,w.heap.size≤B→B<w7.heap.size→B∉F':=fun B h1 h2 hm=>(hgr B hm).elim (fun hm=>by have:=hFlt B hm;omega) (by omega)
   have htl:=h.tab.lt
   have hpFt:p∉Ft:=fun hm=>h.tw _ hm hw.inP
   have hDFt:Apart F' Ft:=fun x hx hm=>(hgr x hx).elim (fun hd=>h.dt x hd hm) (fun hN=>by have:=htl x hm;omega)
   have hpl:=hw.blk.lt
   have hpF':p∉F':=fun hm=>(hgr p hm).elim hpF (by omega)
   have hpN:p≠w.heap.size:=by omega
   have hpN2:¬ w.heap.size=p:=by omega
   have hbe:=fun W=>XW off m (by omega) (by omega) W
   rw[show KB off m=off+1+m by unfold KB;omega] at hbe
   have hTo:=ZAX W.drew base t g Ft us lv (htb.keep0 (Keep.refl _ _).drew) seg lsn (by omega) (by omega)
   have hcc2:∀ W',Keep Ft W W'→W'.cell? ⟨w.heap.size,0,none⟩=some (.pointer (some ⟨p,0,none⟩))∧W'.cell? ⟨p,2,none⟩=some (.pointer (some ⟨t,0,none⟩))∧W'.cell? ⟨p,3,none⟩=some (.int .i64 seg)∧W'.cell? ⟨p,5,none⟩=some (.int .i64 lsn)∧W'.cell? ⟨p,4,none⟩=some (.int .i64 off):=fun W' hk=>by
    obtain⟨c0,c1,c2,c3,c4,c5,c6,c7,c8,c9⟩:=JD (hbp.keep hk hpFt)
    exact⟨(JA hI.b3 hk (fun hm=>by have:=htl _ hm;omega)).cell,c2,c3,c5,c4⟩
   have HI':=ZB hI
   have HD':=ZB hD
   have S7':=ZB s7
   clear h0 c1 c2 k6 k7 k57 kw7 hw6 hw7 s6 s7 hseq hgw7 b3C b6C q10' hu7 kwC hI hD
   gi_wp2
   refine KY (wpIn_wide.2 ?_)
   refine ZT (fun W'=>W'.cell? ⟨w.heap.size,0,none⟩=some (.pointer (some ⟨p,0,none⟩))∧W'.cell? ⟨p,2,none⟩=some (.pointer (some ⟨t,0,none⟩))∧W'.cell? ⟨p,3,none⟩=some (.int .i64 seg)∧W'.cell? ⟨p,5,none⟩=some (.int .i64 lsn)∧W'.cell? ⟨p,4,none⟩=some (.int .i64 off)) 14 [[0,1,2,3,4,5,6,7,8,9,10,11,12,13]] (hcc2 _ (Keep.refl _ _).drew) ?_
   simp only[PI]
   iterate 14 (refine ZH ?_;simp only[Act.put,PU])
   refine JB ?_
   go_wp2_with (refine hTo.mono ?_;clear hTo;rintro e W2 ⟨rfl,ht2,hk2⟩)
   have hkT:Keep Ft W W2:=(Keep.refl [] W).drew.zero.trans hk2 (fun x hx=>.inl hx)
   have hb2:=hbp.keep hkT hpFt
   obtain⟨q3,-,-,q5,q4⟩:=hcc2 _ hkT
   have f4:=hb2.frozen 4
   have f5:=hb2.frozen 5
   have f6:=hb2.frozen 6
   have e6:=(hb2.cell 6).trans (show _=some (Value.int .i64 prev) from rfl)
   have hwl:IntKind.i64.wrap (((lsn:Nat):Int)+1)=(lsn:Nat)+1:=by rw[IntKind.wrap_i64];omega
   have q3a:(W2.setCell ⟨p,4,none⟩ (.int .i64 (off+1+m:Nat))).cell? ⟨w.heap.size,0,none⟩=some (.pointer (some ⟨p,0,none⟩)):=by rw[World.cell?_setCell_other _ _ _ _ (by simp)];exact q3
   have q3b:((W2.setCell ⟨p,4,none⟩ (.int .i64 (off+1+m:Nat))).setCell ⟨p,5,none⟩ (.int .i64 ((lsn:Nat)+1))).cell? ⟨w.heap.size,0,none⟩=some (.pointer (some ⟨p,0,none⟩)):=by rw[World.cell?_setCell_other _ _ _ _ (by simp)];exact q3a
   have hba:=hb2.set 4 (.int .i64 (off+1+m:Nat))
   have q5a:=(hba.cell 5).trans (show _=some (Value.int .i64 lsn) from by simp)
   have f5a:=hba.frozen 5
   have hbb:=hba.set 5 (.int .i64 ((lsn:Nat)+1))
   have q6b:=(hbb.cell 6).trans (show _=some (Value.int .i64 prev) from by simp)
   have f6b:=hbb.frozen 6
   have hbc:=hbb.set 6 (.int .i64 (sum:Nat))
   have x6:=JA (QA HI').b6 hkT (fun hm=>by have:=htl _ hm;omega)
   have e6b:=x6.cell
   have f6b':=x6.frozen
   obtain⟨Wz,hWz⟩:∃ Wz,Wz=((((W2.setCell ⟨p,4,none⟩ (.int .i64 ((off:Nat)+1+(m:Nat)))).setCell ⟨p,5,none⟩ (.int .i64 ((lsn:Nat)+1))).setCell ⟨p,6,none⟩ (.int .i64 (sum:Nat))).setCell ⟨w.heap.size+1,0,none⟩ (.int .i64 0)).drew:=⟨_,rfl⟩
   have hkz0:Keep [p] W2 (((W2.setCell ⟨p,4,none⟩ (.int .i64 ((off:Nat)+1+(m:Nat)))).setCell ⟨p,5,none⟩ (.int .i64 ((lsn:Nat)+1))).setCell ⟨p,6,none⟩ (.int .i64 (sum:Nat))):=(((Keep.refl [p] W2).setCell (p:=⟨p,4,none⟩) (.inl (by simp)) _).setCell (p:=⟨p,5,none⟩) (.inl (by simp)) _).setCell (p:=⟨p,6,none⟩) (.inl (by simp)) _
   have hkz1:Keep [w.heap.size+1] (((W2.setCell ⟨p,4,none⟩ (.int .i64 ((off:Nat)+1+(m:Nat)))).setCell ⟨p,5,none⟩ (.int .i64 ((lsn:Nat)+1))).setCell ⟨p,6,none⟩ (.int .i64 (sum:Nat))) Wz:=by rw[hWz];exact((Keep.refl _ _).setCell (.inl (by simp)) _).drew
   have hbz:Blk Wz p 209 #[.pointer (some ⟨d,0,none⟩),.pointer (some ⟨g,0,none⟩),.pointer (some ⟨t,0,none⟩),.int .i64 seg,.int .i64 ((off:Nat)+1+(m:Nat)),.int .i64 ((lsn:Nat)+1),.int .i64 (sum:Nat),.int .i64 mount,.slice IA items.length icc,.slice BA ls0.length bcc]:=by
    have h1:=((hb2.set 4 (.int .i64 ((off:Nat)+1+(m:Nat)))).set 5 (.int .i64 ((lsn:Nat)+1))).set 6 (.int .i64 (sum:Nat))
    have h2:=h1.keep hkz1 (by simp;omega)
    simpa using h2
   have b6z:Boxed Wz (w.heap.size+1) 31 (.int .i64 0):=by
    have h1:=JA x6 hkz0 (by simp;omega)
    rw[hWz]
    exact JA (h1.set (.int .i64 0)) (Keep.refl [] _).drew (by simp)
   have hdWz:Wz.heap[D']? = some (.deferred (some [])):=(hkz1.block D' (Nat.lt_of_lt_of_le (Array.getElem?_eq_some_iff.1 hdef).1 (Nat.le_trans hkT.size hkz0.size)) (by simp;have:=QA S7';omega)).trans ((hkz0.block D' (Nat.lt_of_lt_of_le (Array.getElem?_eq_some_iff.1 hdef).1 hkT.size) (by simp;have:=QA S7';omega)).trans ((hkT.block D' (Array.getElem?_eq_some_iff.1 hdef).1 (fun hm=>by have:=htl _ hm;have:=QA S7';omega)).trans hdef))
   have q6z:=(XC (.deferred none) b6z hdWz rfl).cell
   have hkf:Keep (Fd++(Ft++[p])) w (Wz.putObj D' (.deferred none)):=
    (((((QA HI').keep.sub (m:=Fd++(Ft++[p])) (fun x hx=>List.mem_append_left _ hx)).trans hkT (fun x hx=>.inl (by simp[hx]))).trans hkz0 (fun x hx=>.inl (by simp at hx;simp[hx]))).trans hkz1 (fun x hx=>.inr (by simp at hx;omega))).putObj (g:=D') (by have:=QA S7';omega) (.deferred none)
   have hls:=KJ D aa bs q
   have hfin:LogIs (Wz.putObj D' (.deferred none)) base d g t p F' Ft Fw B (YW D aa bs q) (QF us seg lsn) lv { pos:=⟨seg,off+1+m,lsn+1,sum,mount⟩,items:=items,blocks:=blocks }:=by
    have hgp:g≠p:=fun e=>(QA HH).gw (by rw[e];exact hw.inP)
    have hgF:g∉Fd++(Ft++[p]):=by
     simp only[List.mem_append,List.mem_singleton,not_or]
     exact⟨(QA HH).gd,(QA HH).gt,hgp⟩
    refine⟨(((((QA HD').keep hkT hDFt).keep hkz0 (fun x hx hm=>hpF' (by simp at hm;subst hm;exact hx))).keep hkz1 (fun x hx hm=>hnot (w.heap.size+1) (by omega) (by have:=QA S7';omega) (by simp at hm;subst hm;exact hx)))).putObj _ hdWz rfl,(QA HH).geom.keep hkf hgF,
     (((ht2.keep hkz0 (fun x hx hm=>hpFt (by simp at hm;subst hm;exact hx))).keep hkz1 (fun x hx hm=>by have:=htl x hx;simp at hm;omega))).putObj _ hdWz rfl,⟨I,Bv,ls0,?_⟩,hDFt,?_,(QA HH).tw,?_,(QA HH).gt,(QA HH).gw,?_,hls.2.1.trans (QA HH).off,hls.2.2.1.trans (QA HH).fuse,hls.1.trans (QA HH).many,Nat.le_trans (QA HH).le hkf.size⟩
    · refine hw.setPosL ⟨seg,off+1+m,lsn+1,sum,mount⟩ ?_ hkf (fun x hx hne hm=>?_)
      · rw[QA HI,QA HB]
        exact JG _ hbz hdWz rfl
      · simp only[List.mem_append,List.mem_singleton] at hm
        rcases hm with hm | hm | hm
        · exact(QA HH).dw x hm hx
        · exact(QA HH).tw x hm hx
        · exact hne hm
    · intro x hx hm
      rcases hgr x hx with h' | h'
      · exact(QA HH).dw x h' hm
      · have:=hw.lt x hm;have:=QA S7';omega
    · intro hm
      rcases hgr g hm with h' | h'
      · exact(QA HH).gd h'
      · have:=(QA HH).geom.lt;have:=QA S7';omega
    · exact⟨b1,(show off+1+m≤24 by omega),(show 1≤lsn+1∧lsn+1≤2147483647 by omega),hsum,b5⟩
   have hseg:aa=YB B seg+off:=by rw[QA HAA,QA HSA];rfl
   have hgrow:Grow w Fd F':=fun x hx=>(hgr x hx).imp id (fun h'=>by have:=QA S7';omega)
   rw[hseg,QA HBS,QA HQ] at hfin
   have HFIN:=ZB hfin
   have HKF:=ZB hkf
   have HDZ:=ZB hdWz
   have HZ:=ZB hWz
   have HQ6:=ZB q6z
   clear hfin hkf hdWz hWz q6z hkz0 hkz1 hbz b6z hls hseg
   gi_wp2
   refine KY (wpIn_wide.2 ?_)
   refine ZR (fun W'=>W'.cell? ⟨w.heap.size,0,none⟩=some (.pointer (some ⟨p,0,none⟩))) 26 (.held 0 (.held 1 (.held 2 (.held 3 (.held 4 (.held 5 (.held 6 (.held 8 (.held 9 (.held 11 (.held 12 (.held 13 (.held 14 (.held 17 (.two 7 (.two 10 (.loud 15 (.held 16 (.held 18 (.held 19 (.held 20 (.loud 21 (.held 22 (.held 23 (.held 24 (.loud 25 .nil)))))))))) 15 (.held 16 (.loud 10 (.held 18 (.held 19 (.held 20 (.loud 21 (.held 22 (.held 23 (.held 24 (.loud 25 .nil))))))))))) 15 (.held 16 (.loud 7 (.loud 10 (.held 18 (.held 19 (.held 20 (.loud 21 (.held 22 (.held 23 (.held 24 (.loud 25 .nil)))))))))))))))))))))))))) q3 ?_
   simp only[RT.pick,PJ]
   iterate 14 (refine ZK ?_;simp only[Act.put,PU])
   refine wpR_two ?_ ?_
   · refine wpR_loud (by rfl) (fun K hK=>?_)
     go_wp2_with fail
     refine hK _ _ (q3) ?_
     clear hK K
     try simp only[Act.put,PU]
     refine wpR_two ?_ ?_
     · refine wpR_loud (by rfl) (fun K hK=>?_)
       go_wp2_with (refine(hbe _).mono ?_;rintro e w' ⟨rfl,rfl⟩)
       refine hK _ _ (q3) ?_
       clear hK K
       try simp only[Act.put,PU]
       refine wpR_loud (by rfl) (fun K hK=>?_)
       go_wp2_with fail
       refine hK _ _ (q3) ?_
       clear hK K
       try simp only[Act.put,PU]
       iterate 1 (refine ZK ?_;simp only[Act.put,PU])
       iterate 3 (refine ZK ?_;simp only[Act.put,PU])
       refine wpR_loud (by rfl) (fun K hK=>?_)
       go_wp2_with fail
       refine hK _ _ (q3a) ?_
       clear hK K
       try simp only[Act.put,PU]
       iterate 3 (refine ZK ?_;simp only[Act.put,PU])
       refine wpR_loud (by rfl) (fun K hK=>?_)
       go_wp2_with fail
       refine hK _ _ (q3b) ?_
       clear hK K
       try simp only[Act.put,PU]
       refine wpR_nil ?_
       go_wp2_with fail
       gi_wp2
       rw[← QA HZ]
       refine⟨by simp,.inl ⟨_,_,rfl,run_takeDeferred (QA HDZ),?_⟩⟩
       have q6z:=QA HQ6
       refine⟨.int .i64 0,?_,rfl,F',rs,sum,hrl,hsum,QA HFIN,QA HKF,hgrow⟩
       simp[results,Tryz.results180,go_sem,q6z]
     · refine wpR_loud (by rfl) (fun K hK=>?_)
       go_wp2_with fail
       refine hK _ _ (q3) ?_
       clear hK K
       try simp only[Act.put,PU]
       iterate 1 (refine ZK ?_;simp only[Act.put,PU])
       refine wpR_loud (by rfl) (fun K hK=>?_)
       go_wp2_with (refine(hbe _).mono ?_;rintro e w' ⟨rfl,rfl⟩)
       refine hK _ _ (q3) ?_
       clear hK K
       try simp only[Act.put,PU]
       iterate 3 (refine ZK ?_;simp only[Act.put,PU])
       refine wpR_loud (by rfl) (fun K hK=>?_)
       go_wp2_with fail
       refine hK _ _ (q3a) ?_
       clear hK K
       try simp only[Act.put,PU]
       iterate 3 (refine ZK ?_;simp only[Act.put,PU])
       refine wpR_loud (by rfl) (fun K hK=>?_)
       go_wp2_with fail
       refine hK _ _ (q3b) ?_
       clear hK K
       try simp only[Act.put,PU]
       refine wpR_nil ?_
       go_wp2_with fail
       gi_wp2
       rw[← QA HZ]
       refine⟨by simp,.inl ⟨_,_,rfl,run_takeDeferred (QA HDZ),?_⟩⟩
       have q6z:=QA HQ6
       refine⟨.int .i64 0,?_,rfl,F',rs,sum,hrl,hsum,QA HFIN,QA HKF,hgrow⟩
       simp[results,Tryz.results180,go_sem,q6z]
   · refine wpR_loud (by rfl) (fun K hK=>?_)
     go_wp2_with fail
     refine hK _ _ (q3) ?_
     clear hK K
     try simp only[Act.put,PU]
     iterate 1 (refine ZK ?_;simp only[Act.put,PU])
     refine wpR_loud (by rfl) (fun K hK=>?_)
     go_wp2_with fail
     refine hK _ _ (q3) ?_
     clear hK K
     try simp only[Act.put,PU]
     refine wpR_loud (by rfl) (fun K hK=>?_)
     go_wp2_with (refine(hbe _).mono ?_;rintro e w' ⟨rfl,rfl⟩)
     refine hK _ _ (q3) ?_
     clear hK K
     try simp only[Act.put,PU]
     iterate 3 (refine ZK ?_;simp only[Act.put,PU])
     refine wpR_loud (by rfl) (fun K hK=>?_)
     go_wp2_with fail
     refine hK _ _ (q3a) ?_
     clear hK K
     try simp only[Act.put,PU]
     iterate 3 (refine ZK ?_;simp only[Act.put,PU])
     refine wpR_loud (by rfl) (fun K hK=>?_)
     go_wp2_with fail
     refine hK _ _ (q3b) ?_
     clear hK K
     try simp only[Act.put,PU]
     refine wpR_nil ?_
     go_wp2_with fail
     gi_wp2
     rw[← QA HZ]
     refine⟨by simp,.inl ⟨_,_,rfl,run_takeDeferred (QA HDZ),?_⟩⟩
     have q6z:=QA HQ6
     refine⟨.int .i64 0,?_,rfl,F',rs,sum,hrl,hsum,QA HFIN,QA HKF,hgrow⟩
     simp[results,Tryz.results180,go_sem,q6z]
end
section
open Go.RowKit Go.Shelf
structure PW.Ok (W:PW):Prop where
 few:W.items.length≤6
 may:∀ i∈W.items,i.May
 full:∀ b∈W.blocks,b.length=64
 many:W.blocks.length=YE W.items
 fit:W.items≠[]→KB W.pos.off W.blocks.length≤23
def Emitted (B:Nat) (D:PDisk) (us:List (Nat×Nat)) (W:PW) (D':PDisk) (us':List (Nat×Nat)) (W':PW):Prop:=
 (W.items=[]∧D'=D∧us'=us∧W'=W) ∨
 (W.items≠[]∧∃ D1 W1 rs sum,Begun B D W D1 W1∧RecAs W.pos.mount W.pos.lsn W.pos.prev W.items W.blocks rs sum∧sum≤4294967295∧D'=YW D1 (YB B W.pos.seg+W1.pos.off) (rs++W.blocks.flatten) (1+W.blocks.length)∧us'=QF us W.pos.seg W.pos.lsn ∧
   W'=⟨⟨W.pos.seg,W1.pos.off+1+W.blocks.length,W.pos.lsn+1,sum,W.pos.mount⟩,[],[]⟩)
theorem Begun.same {B:Nat} {D D':PDisk} {W W':PW} (h:Begun B D W D' W'):W'.items=W.items∧W'.blocks=W.blocks∧W'.pos.seg=W.pos.seg∧W'.pos.off=max W.pos.off 1∧W'.pos.lsn=W.pos.lsn∧W'.pos.prev=W.pos.prev∧W'.pos.mount=W.pos.mount∧D'.acts≤D.acts+1:=by
 rcases h with⟨h,rfl,rfl⟩ | ⟨h,b,-,rfl,rfl⟩
 · exact⟨rfl,rfl,rfl,by omega,rfl,rfl,rfl,by omega⟩
 · exact⟨rfl,rfl,rfl,by simp[h],rfl,rfl,rfl,by simp[PDisk.write]⟩
theorem ZAF (w:World) (base d g t p:Nat) (Fd Ft Fw:List Nat) (B:Nat) (D:PDisk) (us:List (Nat×Nat)) (lv:List Nat) (W:PW) (h:LogIs w base d g t p Fd Ft Fw B D us lv W) (ho:W.Ok) (ha:D.acts≤1000000) (hlsn:W.pos.lsn<2147483647) :
 Calls Tryz.prog 99 #[.pointer (some ⟨p,0,none⟩)] w fun e w'=>e=.returned (.int .i64 0)∧∃ Fd' Fw' D' us' W',LogIs w' base d g t p Fd' Ft Fw' B D' us' lv W'∧Emitted B D us W D' us' W'∧Keep (Fd++(Ft++Fw)) w w'∧Grow w Fd Fd'∧Grow w Fw Fw':=by
 obtain⟨I,Bv,ls,hw⟩:=h.wri
 obtain⟨IA,ic,rfl,_⟩:=QB hw.its
 obtain⟨BA,bc,rfl,_⟩:=QB hw.bls
 have hOf:=KAK w base d Fd D h.disk
 rw[h.off] at hOf
 obtain⟨c0,c1,c2,c3,c4,c5,c6,c7,c8,c9⟩:=JD hw.blk
 by_cases hn:W.items.length=0
 · rw[hn] at c8
   go_enter Tryz.func99,Tryz.ntmps99
   go_wp2_with (refine hOf.mono ?_;clear hOf;rintro e w' ⟨rfl,rfl⟩)
   go_ret
   exact⟨rfl,Fd,Fw,D,us,W,h,.inl ⟨List.eq_nil_of_length_eq_zero hn,rfl,rfl,rfl⟩,Keep.refl _ _,Grow.refl _ _,Grow.refl _ _⟩
 · have hb:=ZAJ w base d g t p Fd Ft Fw B D us lv W h (by omega)
   obtain⟨n,hnn⟩:∃ n,n=W.items.length:=⟨_,rfl⟩
   rw[← hnn] at c8
   have hnI:¬ ((n:Nat):Int)=0:=by omega
   have HN:=ZB hnn
   have HN0:=ZB hn
   clear hnn hn
   go_enter Tryz.func99,Tryz.ntmps99
   go_wp2_with (first | (refine hOf.mono ?_;clear hOf;rintro e w' ⟨rfl,rfl⟩) | (refine hb.mono ?_;clear hb;rintro e w1 ⟨rfl,Fd1,D1,W1,h1,hbg,hk1,hg1⟩))
   clear c0 c1 c2 c3 c4 c5 c6 c7 c8 c9
   obtain⟨I1,Bv1,ls1,hw1⟩:=h1.wri
   obtain⟨IA1,ic1,rfl,_⟩:=QB hw1.its
   obtain⟨BA1,bc1,rfl,_⟩:=QB hw1.bls
   obtain⟨e1,e2,e3,e4,e5,e6,e7,e8⟩:=hbg.same
   have hn1:W1.items.length=n:=by rw[e1,← QA HN]
   have hm1:ls1.length=W.blocks.length:=by rw[hw1.len,e2]
   have hne:W.items≠[]:=fun e=>QA HN0 (by rw[e];rfl)
   have hfit:=ho.fit hne
   have hn0:1≤n:=by have:=QA HN0;have:=QA HN;omega
   have hn6:n≤6:=by have:=QA HN;have:=ho.few;omega
   rw[hn1] at hw1
   have hIw:=hw1.its
   have hblk1:=hw1.blk
   rw[hn1] at hIw
   obtain⟨ig,ic1',hig,_⟩:=QD hIw (by omega)
   cases hig
   obtain⟨m,hm⟩:∃ m,m=W.blocks.length:=⟨_,rfl⟩
   rw[← hm] at hm1 hfit
   have hR1:=hw1.rws rfl
   rw[hm1] at hR1 hblk1
   have hWr:=JAI w1.drew base d g t p Fd1 Ft Fw B D1 us lv W1 (h1.keep0 (Keep.refl _ _).drew) (by omega) ig n ic1 W1.items (Rd.of_ownN (ZA hIw (Keep.refl _ _).drew)) hn1 (by rw[e1];exact ho.may) hn0 hn6 BA1 m bc1 ls1 (hR1.keep (Keep.refl _ _).drew)
    (fun q hq=>ho.full _ (by rw[← e2,← hw1.snd];exact List.mem_map.2 ⟨q,hq,rfl⟩)) (by rw[hm,ho.many,e1]) (by rw[e4];omega) (by rw[e4];unfold KB at hfit;omega) (by rw[e5];omega)
   obtain⟨c0,c1,c2,c3,c4,c5,c6,c7,c8,c9⟩:=JD hblk1
   have HM:=ZB hm
   have HM1:=ZB hm1
   have HN1:=ZB hn1
   have HE:=ZB (And.intro e1 (And.intro e2 (And.intro e3 (And.intro e4 (And.intro e5 (And.intro e6 (And.intro e7 e8)))))))
   have HB:=ZB hbg
   clear hm hm1 hn1 e1 e2 e3 e4 e5 e6 e7 e8 hIw hR1 hbg
   refine ZT (fun w'=>w'.cell? ⟨p,8,none⟩=some (.slice (some ⟨ig,0,none⟩) n ic1)∧w'.cell? ⟨p,9,none⟩=some (.slice BA1 m bc1)) 9 [[0,1,2,3,4,5,6,7,8]] ⟨c8,c9⟩ ?_
   simp only[PI]
   iterate 9 (refine ZH ?_;simp only[Act.put,PU])
   refine JB ?_
   clear c0 c1 c2 c3 c4 c5 c6 c7 c8 c9
   go_wp2_with (refine hWr.mono ?_;clear hWr;rintro e w2 ⟨rfl,Fd2,rs,sum,hrl,hsum,h2,hk2,hg2⟩;(obtain⟨I2,Bv2,ls2,hw2⟩:=h2.wri);(have f8:=hw2.blk.frozen 8);(have f9:=hw2.blk.frozen 9);(obtain⟨c0,c1,c2,c3,c4,c5,c6,c7,c8,c9⟩:=JD hw2.blk);(obtain⟨IA2,ic2,hI2,_⟩:=QB hw2.its);(obtain⟨BA2,bc2,hB2,_⟩:=QB hw2.bls);rw[hI2] at c8;rw[hB2] at c9;(have HI2:=ZB hI2);(have HB2:=ZB hB2);clear hI2 hB2)
   go_ret
   obtain⟨e1,e2,e3,e4,e5,e6,e7,e8⟩:=QA HE
   have hkp:Keep [p] w2 ((w2.setCell ⟨p,8,none⟩ (.slice none 0 0)).setCell ⟨p,9,none⟩ (.slice none 0 0)):=((Keep.refl [p] w2).setCell (p:=⟨p,8,none⟩) (.inl (by simp)) _).setCell (p:=⟨p,9,none⟩) (.inl (by simp)) _
   have hbz:=(hw2.blk.set 8 (.slice none 0 0)).set 9 (.slice none 0 0)
   have h3:=h2.setWri (w':=(w2.setCell ⟨p,8,none⟩ (.slice none 0 0)).setCell ⟨p,9,none⟩ (.slice none 0 0)) (Fw':=[p]) (W':=⟨⟨W.pos.seg,W1.pos.off+1+m,W.pos.lsn+1,sum,W.pos.mount⟩,[],[]⟩)
    ⟨.slice none 0 0,.slice none 0 0,[],by rw[← e3,← e5,← e7];simpa using hbz,World.ownsRow_nil _ _ _ _,World.ownsRow_nil _ _ _ _,by simp,rfl,rfl,hw2.base⟩
    (hkp.sub (fun x hx=>by simp at hx;subst hx;exact hw2.inP)) (fun x hx=>.inl (by simp at hx;subst hx;exact hw2.inP)) (by have:=h2.pos;rw[e3,e5,e7] at this;exact this)
   refine⟨rfl,Fd2,[p],_,_,_,h3,.inr ⟨hne,D1,W1,rs,sum,QA HB,by rw[e7,e5,e6,e1,hw1.snd,e2] at hrl;exact hrl,hsum,?_,?_,?_⟩,?_,?_,?_⟩
   · rw[e3,← QA HM]
     congr 2
     rw[← e2,← hw1.snd,List.flatMap_def]
   · rw[e3,e5]
   · rw[← QA HM]
   · refine((hk1.sub (m:=Fd++(Ft++Fw)) ?_).drew.trans hk2 ?_).trans hkp ?_
     · intro x hx
       rcases List.mem_append.1 hx with hx | hx
       · simp[hx]
       · simp at hx;subst hx;simp[hw.inP]
     · intro x hx
       rcases List.mem_append.1 hx with hx | hx
       · exact(hg1 x hx).imp (fun h=>by simp[h]) id
       · rcases List.mem_append.1 hx with hx | hx
         · exact .inl (by simp[hx])
         · simp at hx;subst hx;exact .inl (by simp[hw.inP])
     · intro x hx
       simp at hx;subst hx;exact .inl (by simp[hw.inP])
   · intro x hx
     rcases hg2 x hx with hx | hx
     · exact hg1 x hx
     · exact .inr (Nat.le_trans hk1.size hx)
   · intro x hx
     simp at hx;subst hx;exact .inl hw.inP
end
section
open Go.RowKit Go.Shelf
def Turned (B:Nat) (D:PDisk) (us:List (Nat×Nat)) (W:PW) (s:Nat) (D':PDisk) (us':List (Nat×Nat)) (W':PW):Prop:=
 ∃ rs hd sum,RecAs W.pos.mount W.pos.lsn W.pos.prev [⟨7,0,0,s⟩] [] rs sum∧HeadAs hd s W.pos.mount (W.pos.lsn+1) sum∧sum≤4294967295∧D'=(YW D (YB B W.pos.seg+W.pos.off) rs 1).write (YB B s) hd∧us'=VE (QF us W.pos.seg W.pos.lsn) W.pos.seg 2∧W'={ W with pos:=⟨s,1,W.pos.lsn+1,sum,W.pos.mount⟩ }
theorem Vo (us:List (Nat×Nat)) (s x:Nat) (hs:s<us.length):((QF us s x).getD s (0,0)).1=(us.getD s (0,0)).1:=by
 unfold QF
 rw[QJ (by simpa using hs),List.getElem_set_self]
theorem VAw (w:World) (base d g t p:Nat) (Fd Ft Fw:List Nat) (B:Nat) (D:PDisk) (us:List (Nat×Nat)) (lv:List Nat) (W:PW) (h:LogIs w base d g t p Fd Ft Fw B D us lv W) (s:Nat) (hs:s≤7) (ho:1≤W.pos.off) (ho2:W.pos.off≤23) (ha:D.acts≤1000000) (hlsn:W.pos.lsn<2147483647)
 (hop:(us.getD W.pos.seg (0,0)).1=1) :
 Calls Tryz.prog 247 #[.pointer (some ⟨p,0,none⟩),.int .i64 (s:Nat)] w fun e w'=>e=.returned (.int .i64 0)∧∃ Fd' D' us' W',LogIs w' base d g t p Fd' Ft Fw B D' us' lv W'∧Turned B D us W s D' us' W'∧Keep (Fd++(Ft++[p])) w w'∧Grow w Fd Fd':=by
 obtain⟨I,Bv,ls,hw⟩:=h.wri
 obtain⟨c0,c1,c2,c3,c4,c5,c6,c7,c8,c9⟩:=JD hw.blk
 have hul:us.length=8:=by obtain⟨L,V,ht⟩:=h.tab;exact ht.ulen
 obtain⟨b1,b2,b3,b4,b5⟩:=h.pos
 obtain⟨seg,hseg⟩:∃ seg,seg=W.pos.seg:=⟨_,rfl⟩
 rw[← hseg] at c3 b1 hop
 have HSEG:=ZB hseg
 clear hseg
 obtain⟨wA,hwA⟩:∃ wA,wA=w.alloc (.cells #[.int .i64 7,.int .i64 0,.int .i64 0,.int .i64 s] 114):=⟨_,rfl⟩
 have hkA:Keep [] w wA:=by rw[hwA];exact(Keep.refl _ _).alloc _
 have hrd:Rd wA (some ⟨w.heap.size,0,none⟩) (1*4) ([⟨7,0,0,s⟩].flatMap itc):=by
  have:=Rd.of_blk (n:=4) (Blk.new w 114 #[.int .i64 7,.int .i64 0,.int .i64 0,.int .i64 s]) (by simp)
  rw[hwA]
  simpa [itc] using this
 have hWr:=JAI wA base d g t p Fd Ft Fw B D us lv W (h.keep0 hkA) (by omega) w.heap.size 1 1 [⟨7,0,0,s⟩] hrd rfl (fun i hi=>by simp at hi;subst hi;exact .inr (.inr (.inr (.inr ⟨rfl,rfl,rfl,(show s≤31 by omega)⟩)))) (by omega) (by omega)
  none 0 0 [] ⟨by exact⟨rfl,fun h=>absurd h (by omega)⟩,by simp⟩ (by simp) rfl ho (by omega) hlsn
 go_enter Tryz.func247,Tryz.ntmps247
 go_wp2_with (first
  | (rw[← hwA]
     refine hWr.mono ?_
     clear hWr
     rintro e w2 ⟨rfl,Fd2,rs,sum,hrl,hsum,h2,hk2,hg2⟩
     obtain⟨I2,Bv2,ls2,hw2⟩:=h2.wri
     have hSl:=ZAr w2 base t g Ft _ lv h2.tab W.pos.seg (by have:=h.pos.1;omega) (by rw[Vo _ _ _ (by have:=h.pos.1;omega),← QA HSEG];exact hop)
     rw[← QA HSEG] at hSl
     clear c0 c1 c2 c3 c4 c5 c6 c7 c8 c9
     obtain⟨c0,c1,c2,c3,c4,c5,c6,c7,c8,c9⟩:=JD hw2.blk)
  | (refine hSl.mono ?_
     clear hSl
     rintro e w3 ⟨rfl,ht3,hk3⟩
     have hw3:=hw2.keep hk3 h2.tw.symm
     have f3:=hw3.blk.frozen 3
     have f4:=hw3.blk.frozen 4
     clear c0 c1 c2 c3 c4 c5 c6 c7 c8 c9
     obtain⟨c0,c1,c2,c3,c4,c5,c6,c7,c8,c9⟩:=JD hw3.blk))
 have hkp:Keep [p] w3 ((w3.setCell ⟨p,3,none⟩ (.int .i64 s)).setCell ⟨p,4,none⟩ (.int .i64 0)):=((Keep.refl [p] w3).setCell (p:=⟨p,3,none⟩) (.inl (by simp)) _).setCell (p:=⟨p,4,none⟩) (.inl (by simp)) _
 have hbz:=(hw3.blk.set 3 (.int .i64 s)).set 4 (.int .i64 0)
 have hw4:=hw3.setPos ⟨s,0,W.pos.lsn+1,sum,W.pos.mount⟩ (by simpa using hbz) hkp
 have h3:=h2.setTab ht3 hk3
 have h4:=h3.setWri ⟨_,_,_,hw4⟩ (hkp.sub (fun x hx=>by simp at hx;subst hx;exact hw3.inP)) (Grow.refl _ _) ⟨hs,(show 0≤24 by omega),(show 1≤W.pos.lsn+1∧W.pos.lsn+1≤2147483647 by omega),hsum,b5⟩
 have hlay:=(KJ D (YB B W.pos.seg+W.pos.off) (rs++([]:List (Value×List UInt8)).flatMap (·.2)) (1+0)).2.2.2.1
 have hBg:=ZAJ _ base d g t p Fd2 Ft Fw B _ _ lv _ h4 (by rw[hlay];omega)
 go_wp2_with (refine hBg.mono ?_;clear hBg;rintro e w5 ⟨rfl,Fd5,D5,W5,h5,hb5,hk5,hg5⟩)
 go_ret
 have hsub:Keep (Fd++(Ft++[p])) w w2:=hkA.zero.trans hk2 (fun x hx=>.inl hx)
 have hsub3:Keep (Fd++(Ft++[p])) w w3:=hsub.trans hk3 (fun x hx=>.inl (by simp[hx]))
 have hsub4:=hsub3.trans hkp (fun x hx=>.inl (by simp at hx;simp[hx]))
 refine⟨rfl,Fd5,D5,_,W5,h5,?_,hsub4.trans hk5 ?_,(hg2.keep hkA).trans hsub.size (hg5.keep (hk3.sub (m:=Ft++[p]) (fun x hx=>by simp[hx]) |>.trans (hkp.sub (m:=Ft++[p]) (fun x hx=>by simp at hx;simp[hx])) (fun x hx=>.inl hx)))⟩
 · rcases hb5 with⟨h0,_⟩ | ⟨_,hd,hdl,rfl,rfl⟩
   · exact absurd h0 (by simp)
   · refine⟨rs,hd,sum,hrl,hdl,hsum,?_,?_,rfl⟩
     · simp
     · rw[QA HSEG]
 · intro x hx
   rcases List.mem_append.1 hx with hx | hx
   · rcases hg2 x hx with hx | hx
     · exact .inl (by simp[hx])
     · exact .inr (Nat.le_trans hkA.size hx)
   · exact .inl (by simp at hx;simp[hx])
end
end Go.Proofs.YthgphmfipnjllaaGreat
