/-
  A part of the proof: lemmas, and contracts of functions; their conditions stand in them.
-/
import Derived.Test.YtmoagodllhdemaaGreatE39
import Derived.Test.YtmoagodllhdemaaGreatE21
import Derived.Test.YtmoagodllhdemaaGreatE13
namespace Go.Proofs.YtmoagodllhdemaaGreat
set_option linter.unusedSimpArgs false
set_option linter.unusedVariables false
set_option maxHeartbeats 4000000
set_option maxRecDepth 100000
section
open Go.RowKit Go.Shelf
attribute [local go_sem] Oper.semAt_some
def ZAi (n₀ fr lim:Nat) (M:List POp) (pre:List OpRnd) (x:OpRnd) (W:World):Prop:=JAv n₀ fr lim pre x W∧M[pre.length]? = some x.2.2
theorem ZAU (n n₀ bc:Nat) (w0:World) (s view size epoch seq acked done:Nat) (L:Value) (os:List (Value×POp)) (w:World) (hS:Src w0 w s view size epoch seq acked done L os)
 (hbc:Boxed w bc 76 (.pointer (some ⟨s,0,none⟩))) (hu:JAm n₀ s L os) (hw0:w0.heap.size≤n₀) (hn₀:n₀≤w.heap.size) :
 QAp n Tryz.prog 156 #[.pointer (some ⟨bc,0,none⟩)] JAP (ZAi n₀ (done+1) os.length (os.map (·.2))) (XAQ n₀ bc (.pointer (some ⟨s,0,none⟩))) (fun xs=>xs.map (·.2.2)=os.map (·.2)) w:=by
 intro l J W hW hJ hY h0
 have hsz:n₀≤W.heap.size:=Nat.le_trans hn₀ hW.size
 replace hS:=hS.keep0 hW
 replace hbc:Boxed W bc 76 (.pointer (some ⟨s,0,none⟩)):=(hW.block bc hbc.lt (by simp)).trans hbc
 have hcb:=hbc.cell
 obtain ⟨c0,c1,c2,c3,c4,c5,c6⟩:=VC hS.blk
 obtain ⟨A,n',c,hL,hnc,hn63⟩:∃ A n' c,L = .slice A n' c∧n'≤c∧c≤9223372036854775807:=by
  obtain ⟨A,c,h1,h2,h3,_⟩:=JB hS.row
  exact ⟨A,_,c,h1,h2,h3⟩
 subst hL
 have hlen:=hS.len
 have hfew:=hS.few
 have hrd:=hS.rd rfl
 have hol:=hrd.2
 have hn'few:n'≤1000000:=by omega
 have hdf:done≤1000000:=by omega
 have hsum:done+n'≤1000000:=by omega
 have HOL:=JC hol
 clear hlen hol
 refine callsIn_of_wp Tryz.func156 rfl trivial ?_ rfl
 simp only [Tryz.ntmps156,List.size_toArray,List.length_cons,List.length_nil,Nat.reduceAdd,Nat.reduceSub,Array.replicate_succ,Array.replicate_zero,List.push_toArray,List.append_toArray,List.nil_append,List.cons_append]
 gi_wp2
 clear c0 c1 c2 c3 c4 c5 c6 hcb
 gi_loopw [18] (fun i wr=>∃ k pre,k≤n'∧i = .int .i64 (k:Nat)∧J pre wr∧Hid (pre.length=k)∧Hid (pre.map (·.2.2)=(os.map (·.2)).take k)∧Src w0 wr s view size epoch seq acked done (.slice A n' c) os∧Boxed wr bc 76 (.pointer (some ⟨s,0,none⟩))∧n₀≤wr.heap.size)
  (fun i _=>n'-(intOf i).toNat)
 case atStart=>exact ⟨0,[],Nat.zero_le _,rfl,h0,rfl,rfl,hS,hbc,hsz⟩
 case round=>
  clear hS hbc hsz h0 hrd
  obtain ⟨k,pre,hk,rfl,hJp,hpl,hpm,hS,hbc,hsz⟩:=hrel
  have hrd:=hS.rd rfl
  by_cases hlt:k<n'
  · have hkl:k<os.length:=by rw [JA HOL];exact hlt
    obtain ⟨b,o,rfl,hb,e0,e1,e2,e3,e4⟩:=hrd.at_ hlt hkl
    obtain ⟨p,hp⟩:∃ p,p=os[k]:=⟨_,rfl⟩
    have hpm':p∈os:=by rw [hp];exact List.getElem_mem hkl
    rw [← hp] at e0 e1 e2 e3 e4
    have hdat:=hS.data p hpm'
    have hsmall:=hS.small p hpm'
    obtain ⟨pv,pk,pb,pc,pe,pd⟩:=p
    simp only at e0 e1 e2 e3 e4 hdat hsmall
    obtain ⟨PA,pcap,rfl,_⟩:=JB hdat
    have hbx:=Blk.new wr 46 #[.int .i64 pk,.int .i64 pb,.int .i64 pc,.int .i64 pe,.slice PA pd.length pcap]
    have hkA:Keep [] wr (wr.alloc (.cells #[.int .i64 pk,.int .i64 pb,.int .i64 pc,.int .i64 pe,.slice PA pd.length pcap] 46)):=(Keep.refl _ _).alloc _
    have hTC:=callsIn_wide (n:=n-1).2 (ZL PA pd.length pcap pd _ (Rd.of_own (XB hdat hkA)) (by omega))
    have HAT:Hid ((os.map (·.2))[pre.length]? = some (⟨pk,pb,pc,pe,pd⟩:POp)):=by show _=_;rw [JA hpl,List.getElem?_map,List.getElem?_eq_getElem hkl,← hp];rfl
    have HP:=JC hp
    clear hp hrd
    gi_wp2_with (refine ⟨trivial,fun h=>by simp [Fence.wide] at h,?_⟩;refine hTC.mono ?_;clear hTC;rintro e w1 ⟨u1,rfl,hu1,hk1,_⟩;(obtain ⟨UA,uc,rfl,_⟩:=JB hu1);(have hb1:=hbx.keep0 hk1);(have hb1l:=hb1.lt);(have hf4:=hb1.frozen 4);(obtain ⟨x0,x1,x2,x3,x4⟩:=QC hb1);(have hkX:Keep [] wr (w1.setCell ⟨wr.heap.size,4,none⟩ (.slice UA pd.length uc)):=(hkA.trans0 hk1).setCell (p:=⟨wr.heap.size,4,none⟩) (.inr (Nat.le_refl _)) _);(obtain ⟨fn,tmps,assign,body,hy,hR⟩:=hY pre (done+1+k,(UA,uc),⟨pk,pb,pc,pe,pd⟩) (w1.setCell ⟨wr.heap.size,4,none⟩ (.slice UA pd.length uc)) (hJ _ _ _ hJp hkX) ⟨⟨by show done+1+k=done+1+pre.length;rw [JA hpl],⟨by rw [JA hpl];exact hkl,by show done+1+k≤1000001;omega⟩,by show pd.length≤64;exact hsmall,own_set (YC hu1 (by simp;omega)) (fun hm=>absurd (own_mem hu1 hm).1 (by rw [World.size_alloc];omega)) _⟩,(JA HAT)⟩);dsimp only [JAP] at hy;simp only [Int.natCast_add,Int.natCast_one] at hy)
    refine ⟨fun h=>by simp [Fence.wide] at h,hR.mono ?_⟩
    rintro e W3 ⟨rfl,hJ3,hk3,hb3⟩
    clear hy hR e0 e1 e2 e3 e4 x0 x1 x2 x3 x4 hf4 hb1 hbx
    gi_wp2
    go_roundw
    case rel=>
     refine ⟨k+1,_,by omega,by go_num,hJ3,by show _=_;rw [List.length_append,JA hpl];rfl,?_,(hS.keep0 hkX).below hu hw0 hk3,hb3 ((hkX.block bc hbc.lt (by simp)).trans hbc),Nat.le_trans hsz (Nat.le_trans hkX.size hk3.size)⟩
     show _=_
     rw [List.map_append,JA hpm,List.take_succ_eq_append_getElem (by simpa using hkl)]
     simp [← JA HP]
    case measure=>simp [intOf];omega
  · obtain rfl:n'=k:=by omega
    gi_wp2
    go_end0
    refine ⟨⟨_,rfl⟩,pre,?_,hJp⟩
    rw [JA hpm,List.take_of_length_le (by simp [JA HOL])]
end
section
open Go.RowKit Go.Shelf
attribute [local go_sem] Oper.semAt_some
theorem elemBks:ElemN Tryz.prog 59 40 (.slice none 0 0) 1 24:=ElemN.of Tryz.underlying59 (by kernel_rfl) rfl (by omega)
def frB (view n:Nat) (o:POp):List UInt8:=QF o.k.toNat view n o.b.toNat o.c.toNat o.e.toNat 0 o.d
def KH (view acked size:Nat):Nat→List POp→List (List UInt8)
 | _,[]=>[]
 | n,o :: os=>(if n≤acked∨acked+size<n then [] else [frB view n o])++KH view acked size (n+1) os
theorem JN (view acked size:Nat):∀ (n:Nat) (l:List POp) (o:POp),KH view acked size n (l++[o])=KH view acked size n l++(if n+l.length≤acked∨acked+size<n+l.length then [] else [frB view (n+l.length) o])
 | n,[],o=>by simp [KH]
 | n,p :: l,o=>by
   rw [List.cons_append,KH,JN view acked size (n+1) l o,KH,List.append_assoc,List.length_cons,show n+1+l.length=n+(l.length+1) by omega]
structure KOut (w:World) (B1 B2 s view size acked done:Nat) (xs:Array Value) (pre:List OpRnd) (W:World):Prop where
 out:∃ (ov:Value) (us:List (Value×List UInt8)),Boxed W B2 59 ov∧W.ownsRow w.heap.size 40 1 ov us.length (us.map Prod.fst)∧(∀ p∈us,W.ownsRow w.heap.size 5 1 p.1 p.2.length (bys p.2)∧p.2.length≤100) ∧
  us.map Prod.snd=KH view acked size (done+1) (pre.map (·.2.2))∧us.length≤pre.length
 box:Boxed W B1 76 (.pointer (some ⟨s,0,none⟩))
 blk:Blk W s 149 xs
 keep:Keep [] w W
theorem KOut.kept {w A B:World} {B1 B2 s view size acked done:Nat} {xs:Array Value} {pre:List OpRnd} (h:KOut w B1 B2 s view size acked done xs pre A) (hk:Keep [] A B):KOut w B1 B2 s view size acked done xs pre B:=by
 obtain ⟨ov,us,h1,h2,h3,h4⟩:=h.out
 exact ⟨⟨ov,us,boxed_keep h1 hk (by simp),XB h2 hk,fun p hp=>⟨XB (h3 p hp).1 hk,(h3 p hp).2⟩,h4⟩,boxed_keep h.box hk (by simp),h.blk.keep0 hk,h.keep.trans0 hk⟩
theorem KOut.turned {w W:World} {B1 B2 s view size acked done l:Nat} {xs:Array Value} {pre:List OpRnd} {o o':Obj} (h:KOut w B1 B2 s view size acked done xs pre W) (hl:w.heap.size≤l) (hg:W.heap[l]? = some o) (ho:o.isCells=false):KOut w B1 B2 s view size acked done xs pre (W.putObj l o'):=by
 obtain ⟨ov,us,h1,h2,h3,h4⟩:=h.out
 refine ⟨⟨ov,us,boxed_putObj o' h1 hg ho,ownsRow_putObj h2 o' hg ho,fun p hp=>⟨ownsRow_putObj (h3 p hp).1 o' hg ho,(h3 p hp).2⟩,h4⟩,boxed_putObj o' h.box hg ho,?_,h.keep.putObj hl o'⟩
 exact (World.putObj_heap_other (by rintro rfl;have:=h.blk;unfold Blk at this;rw [this] at hg;cases hg;cases ho)).trans h.blk
theorem KOut.passed {w W:World} {B1 B2 s view size acked done:Nat} {xs:Array Value} {pre:List OpRnd} {x:OpRnd} (h:KOut w B1 B2 s view size acked done xs pre W) (hx:done+1+pre.length≤acked∨acked+size<done+1+pre.length) :
 KOut w B1 B2 s view size acked done xs (pre++[x]) W:=by
 obtain ⟨ov,us,h1,h2,h3,h4,h5⟩:=h.out
 refine ⟨⟨ov,us,h1,h2,h3,?_,by simp;omega⟩,h.box,h.blk,h.keep⟩
 rw [List.map_append,List.map_cons,List.map_nil,JN,List.length_map,if_pos hx,List.append_nil,h4]
theorem Yp {W W':World} {n₀ bc:Nat} {p:Value} {l:List Nat} (hK:Keep l W W') (hn:n₀≤W.heap.size) (hc:∀ g∈l,∀ o,W.heap[g]? = some o→o.isCells=true) (hge:∀ g∈l,n₀≤g) (hbc:Boxed W bc 76 p→bc∉l) (B:Nat) :
 KeepsFrom B W W'∧XAQ n₀ bc p W W':=
 ⟨hK.fromCells hc _,⟨hK.os,hK.tape,hK.output,hK.size,fun k hk=>hK.block k (by omega) (fun hm=>by have:=hge k hm;omega)⟩,fun hb=>boxed_keep hb hK (hbc hb)⟩
theorem Xu {W W':World} {n₀ bc:Nat} {p:Value} (hK:Keep [] W W') (hn:n₀≤W.heap.size) (B:Nat):KeepsFrom B W W'∧XAQ n₀ bc p W W':=Yp hK hn (by simp) (by simp) (by simp) B
theorem YAU (w0 w:World) (s view size epoch seq acked done:Nat) (L:Value) (os:List (Value×POp)) (h:Src w0 w s view size epoch seq acked done L os) (hfew:os.length≤500) (hsz:size≤16) (hac:acked≤1000000)
 (hmay:∀ i o,(os.map (·.2))[i]? = some o→FrMay o.k view ((done+1+i:Nat):Int) o.b o.c o.e 0 o.d∧o.k≠8∧o.k≠9) :
 Calls Tryz.prog 40 #[.pointer (some ⟨s,0,none⟩)] w fun e w'=>∃ (A:Option Addr) (m c:Nat) (us:List (Value×List UInt8)),e = .returned (.slice A m c)∧Rd w' A m (us.map Prod.fst)∧(∀ p∈us,Bts w' p.1 p.2)∧us.map Prod.snd=KH view acked size (done+1) (os.map (·.2))∧Keep [] w w'∧w'.ownsRow w.heap.size 40 1 (.slice A m c) m (us.map Prod.fst)∧∀ p∈us,w'.ownsRow w.heap.size 5 1 p.1 p.2.length (bys p.2):=by
 refine (callsIn_wide (n:=3)).1 ?_
 refine callsIn_of_wp_marks Tryz.func40 rfl trivial ?_ rfl
 simp only [Tryz.ntmps40,List.size_toArray,List.length_cons,List.length_nil,Nat.reduceAdd,Nat.reduceSub,Array.replicate_succ,Array.replicate_zero,List.push_toArray,List.append_toArray,List.nil_append,List.cons_append]
 have HMAY:=JC hmay
 clear hmay
 gi_wp2_with (refine ⟨trivial,?_⟩;refine (QAu _ _ _ rfl).mono ?_;rintro e w' ⟨rfl,rfl⟩)
 obtain ⟨w1,hw1⟩:∃ w1,w1=w.alloc (.cells #[.pointer (some ⟨s,0,none⟩)] 76):=⟨_,rfl⟩
 obtain ⟨w2,hw2⟩:∃ w2,w2=w1.alloc (.cells #[.slice none 0 0] 59):=⟨_,rfl⟩
 obtain ⟨w3,hw3⟩:∃ w3,w3=w2.alloc (.cells #[.pointer (some ⟨s,0,none⟩)] 76):=⟨_,rfl⟩
 rw [← hw1,← hw2,← hw3]
 have s1:w1.heap.size=w.heap.size+1:=by rw [hw1,World.size_alloc]
 have s2:w2.heap.size=w.heap.size+2:=by rw [hw2,World.size_alloc,s1]
 have s3:w3.heap.size=w.heap.size+3:=by rw [hw3,World.size_alloc,s2]
 have k1:Keep [] w w1:=by rw [hw1];exact (Keep.refl _ _).alloc _
 have k2:Keep [] w1 w2:=by rw [hw2];exact (Keep.refl _ _).alloc _
 have k3:Keep [] w2 w3:=by rw [hw3];exact (Keep.refl _ _).alloc _
 have kw:Keep [] w w3:=(k1.trans0 k2).trans0 k3
 have b1:Boxed w3 w.heap.size 76 (.pointer (some ⟨s,0,none⟩)):=boxed_keep (by rw [hw1];exact Boxed.new w _ _) (k2.trans0 k3) (by simp)
 have b2:Boxed w3 (w.heap.size+1) 59 (.slice none 0 0):=boxed_keep (by rw [hw2,← s1];exact Boxed.new w1 _ _) k3 (by simp)
 have bc:Boxed w3 (w.heap.size+1+1) 76 (.pointer (some ⟨s,0,none⟩)):=by rw [hw3,show w.heap.size+1+1=w2.heap.size by omega];exact Boxed.new w2 _ _
 have h0:KOut w w.heap.size (w.heap.size+1) s view size acked done #[.int .i64 view,.int .i64 size,.int .i64 epoch,.int .i64 seq,.int .i64 acked,.int .i64 done,L] [] w3:=⟨⟨_,[],b2,World.ownsRow_nil _ _ _ _,by simp,rfl,by simp⟩,b1,h.blk.keep0 kw,kw⟩
 have hseq:=ZAU 2 w.heap.size (w.heap.size+1+1) w0 s view size epoch seq acked done L os w3 (h.keep0 kw) bc h.under h.keep.size (by omega)
 refine Yu (n:=3) (gf:=156) (lb:=#[.pointer (some ⟨w.heap.size+1+1,0,none⟩)]) rfl (enters_of Tryz.func156 (by kernel_rfl) rfl)
  hseq
  (fun A B C h k=>⟨h.1.trans k.1,fun hb=>k.2 (h.2 hb)⟩)
  (fun W l o o' hl hg ho=>⟨(Below.refl _ W).grown (grownBy_putObj' W l o') (by have:=(Array.getElem?_eq_some_iff.1 hg).1;omega) (fun k e=>by cases e;omega),fun hb=>boxed_putObj o' hb hg ho⟩)
  (fun _=>rfl) (KOut w w.heap.size (w.heap.size+1) s view size acked done #[.int .i64 view,.int .i64 size,.int .i64 epoch,.int .i64 seq,.int .i64 acked,.int .i64 done,L]) (fun s A B h hk=>h.kept hk) (fun s W l o o' h hl hg ho=>h.turned (by omega) hg ho)
  (fun pre x W l o o' h hl hg ho=>⟨⟨h.1.1,h.1.2.1,h.1.2.2.1,ownsRow_putObj h.1.2.2.2 o' hg ho⟩,h.2⟩)
  (fun pre x A B h hk=>⟨⟨h.1.1,h.1.2.1,h.1.2.2.1,XB h.1.2.2.2 hk⟩,h.2⟩)
  (fun A B hA hk=>⟨⟨hk.os,hk.tape,hk.output,hk.size,fun k hk'=>hk.block k (by omega) (by simp)⟩,fun hb=>boxed_keep hb hk (by simp)⟩) h0
  (fun x N=>{ tmps:=#[.pointer (some ⟨s,0,none⟩),.pointer (some ⟨w.heap.size,0,none⟩),.pointer (some ⟨w.heap.size+1,0,none⟩),.int .i64 (x.1:Nat),.pointer (some ⟨N,0,none⟩),undef,undef,undef,undef,
    .pointer (some ⟨s,0,none⟩),.func (.func 156) #[] #[.pointer (some ⟨w.heap.size+1+1,0,none⟩)],.int .i64 (x.1:Nat),.agg #[.int .i64 x.2.2.k,.int .i64 x.2.2.b,.int .i64 x.2.2.c,.int .i64 x.2.2.e,.slice x.2.1.1 x.2.2.d.length x.2.1.2],
    undef,undef,undef,undef,undef,undef,undef,undef,undef,undef,undef,undef,undef,undef,undef,undef,undef,undef,undef,undef,undef,undef,undef,undef,undef,undef,undef,undef,undef,undef,undef,undef,undef,undef,undef,undef,undef,undef,undef],defers:=[] })
  (fun x W=>W.alloc (.cells #[.int .i64 x.2.2.k,.int .i64 x.2.2.b,.int .i64 x.2.2.c,.int .i64 x.2.2.e,.slice x.2.1.1 x.2.2.d.length x.2.1.2] 46)) (fun x W=>(Keep.refl _ _).alloc _)
  (fun x N W=>Blk W N 46 #[.int .i64 x.2.2.k,.int .i64 x.2.2.b,.int .i64 x.2.2.c,.int .i64 x.2.2.e,.slice x.2.1.1 x.2.2.d.length x.2.1.2]) (fun x W=>Blk.new _ _ _) (fun x N W l o o' h hl hg ho=>(World.putObj_heap_other (by rintro rfl;unfold Blk at h;rw [h] at hg;cases hg;cases ho)).trans h) ?assign ?body ?done
 case assign=>
  rintro l ⟨k,⟨UA,uc⟩,pk,pb,pc,pe,pd⟩ W K hK
  dsimp only [JAP] at hK ⊢
  gi_wp2
  exact hK
 case body=>
  rintro l pre ⟨k,⟨UA,uc⟩,pk,pb,pc,pe,pd⟩ N W hI ⟨⟨hk,⟨hlim,hk6⟩,hd6,ho⟩,hop⟩ hG hN
  dsimp only at hk hlim hk6 hd6 ho hG hop ⊢
  change W.ownsRow w.heap.size 5 1 (.slice UA pd.length uc) pd.length (bys pd) at ho
  have hM:=JA HMAY _ _ hop
  dsimp only at hM
  rw [← hk] at hM
  obtain ⟨hM,hk8,hk9⟩:=hM
  obtain ⟨nk,nb,nc,ne,rfl,rfl,rfl,rfl⟩:∃ nk nb nc ne:Nat,pk=nk∧pb=nb∧pc=nc∧pe=ne:=by
   obtain ⟨g1,g | g | g | g | g⟩:=hM
   all_goals exact ⟨pk.toNat,pb.toNat,pc.toNat,pe.toNat,by omega,by omega,by omega,by omega⟩
  have hID:=hI.kept ((Keep.refl [] W).drew)
  have hGD:=hG.keep0 ((Keep.refl [] W).drew)
  have hbx:=hID.box.cell
  obtain ⟨c0,c1,c2,c3,c4,c5,c6⟩:=VC hID.blk
  have HK:=JC hk
  have HI:=JC hI
  have HM:=JC hM
  clear h0 b1 b2 bc kw k1 k2 k3 hw3 hw2 hw1 hseq hk hI hM hop HMAY
  gi_wp2
  by_cases hx1:k≤acked
  · refine VN (fun w'=>w'.cell? ⟨w.heap.size,0,none⟩=some (.pointer (some ⟨s,0,none⟩))∧w'.cell? ⟨s,4,none⟩=some (.int .i64 acked)) 17 [(0,false),(1,false),(2,false),(3,false),(4,false),(5,false),(6,false),(7,false),(8,false),(9,false),(10,false),(11,false),(12,false),(13,false),(14,false),(15,false),(16,false)]
     (by kernel_rfl) (by kernel_rfl) ⟨(fun _ _ d _ _ h=>by cases d <;> exact h),(fun h=>by obtain ⟨_,_,h⟩:=h;exact h)⟩ ⟨hbx,c4⟩ ?_
    simp only [PI]
    iterate 7 (refine ZB ?_ (by rfl) ?_ ?_;rotate_left;(focus (rintro W ⟨hW1,hW2⟩;go_simp;try with_reducible rfl));simp only [Act.put,PU])
    iterate 10 (refine Qe (by rfl) ?_;simp only [Act.put,PU])
    refine ZC ?_
    go_wp2
    gi_wp2
    have hp:=Xu (n₀:=w.heap.size) (bc:=w.heap.size+1+1) (p := .pointer (some ⟨s,0,none⟩)) ((Keep.refl [] W).drew) (JA HI).keep.size w3.heap.size
    exact ⟨hp.1,hp.2,hID.passed (by have:=JA HK;omega)⟩
  · by_cases hx2:acked+size<k
    · refine VN (fun w'=>w'.cell? ⟨w.heap.size,0,none⟩=some (.pointer (some ⟨s,0,none⟩))∧w'.cell? ⟨s,4,none⟩=some (.int .i64 acked)∧w'.cell? ⟨s,1,none⟩=some (.int .i64 size)) 17 [(0,false),(1,false),(2,false),(3,false),(4,false),(5,false),(6,false),(7,false),(8,false),(9,false),(10,false),(11,false),(12,false),(13,false),(14,false),(15,false),(16,false)]
       (by kernel_rfl) (by kernel_rfl) ⟨(fun _ _ d _ _ h=>by cases d <;> exact h),(fun h=>by obtain ⟨_,_,h⟩:=h;exact h)⟩ ⟨hbx,c4,c1⟩ ?_
      simp only [PI]
      iterate 17 (refine ZB ?_ (by rfl) ?_ ?_;rotate_left;(focus (rintro W ⟨hW1,hW2,hW3⟩;go_simp;try with_reducible rfl));simp only [Act.put,PU])
      refine ZC ?_
      go_wp2
      gi_wp2
      have hp:=Xu (n₀:=w.heap.size) (bc:=w.heap.size+1+1) (p := .pointer (some ⟨s,0,none⟩)) ((Keep.refl [] W).drew) (JA HI).keep.size w3.heap.size
      exact ⟨hp.1,hp.2,hID.passed (by have:=JA HK;omega)⟩
    · refine VN (fun w'=>w'.cell? ⟨w.heap.size,0,none⟩=some (.pointer (some ⟨s,0,none⟩))∧w'.cell? ⟨s,4,none⟩=some (.int .i64 acked)∧w'.cell? ⟨s,1,none⟩=some (.int .i64 size)) 17 [(0,false),(1,false),(2,false),(3,false),(4,false),(5,false),(6,false),(7,false),(8,false),(9,false),(10,false),(11,false),(12,false),(13,false),(14,false),(15,false),(16,false)]
       (by kernel_rfl) (by kernel_rfl) ⟨(fun _ _ d _ _ h=>by cases d <;> exact h),(fun h=>by obtain ⟨_,_,h⟩:=h;exact h)⟩ ⟨hbx,c4,c1⟩ ?_
      simp only [PI]
      iterate 17 (refine ZB ?_ (by rfl) ?_ ?_;rotate_left;(focus (rintro W ⟨hW1,hW2,hW3⟩;go_simp;try with_reducible rfl));simp only [Act.put,PU])
      refine ZC ?_
      go_wp2
      gi_wp2
      obtain ⟨ov,us,h1W,h2W,h3W,h4W,h5W⟩:=(JA HI).out
      obtain ⟨OA,oc,hov,_⟩:=JB h2W
      have hneW:(w.heap.size+1)∉ov.ownBlock.toList:=fun hm=>h1W.not_row (by decide) h2W (Eq.symm (by simpa using hm))
      have H1:=JC h1W
      have H2:=JC h2W
      have H3:=JC h3W
      have H4:=JC h4W
      have HN:=JC hneW
      have HOV:=JC hov
      clear h1W h2W h3W h4W hneW hov
      have hkD2:Keep [] W W.drew.drew:=((Keep.refl [] W).drew).drew
      have hI2:=(JA HI).kept hkD2
      have hG2:=hG.keep0 hkD2
      clear hbx c0 c1 c2 c3 c4 c5 c6 hID hGD
      have hbx:=hI2.box.cell
      obtain ⟨c0,_,_,_,_,_,_⟩:=VC hI2.blk
      obtain ⟨x0,x1,x2,x3,x4⟩:=QC hG2
      have hOf:=fun V (hkv:Keep [] W V)=>VAg view k nk nb nc ne UA pd.length uc pd V ((Rd.of_own ho).keep hkv) (by omega) ⟨hk8,hk9⟩ (JA HM)
      have hSf:∀ V,Keep [] W.drew.drew V→V.cell? ⟨w.heap.size,0,none⟩=some (.pointer (some ⟨s,0,none⟩))∧V.cell? ⟨s,0,none⟩=some (.int .i64 view)∧V.cell? ⟨N,0,none⟩=some (.int .i64 nk)∧V.cell? ⟨N,1,none⟩=some (.int .i64 nb)∧V.cell? ⟨N,2,none⟩=some (.int .i64 nc)∧V.cell? ⟨N,3,none⟩=some (.int .i64 ne)∧V.cell? ⟨N,4,none⟩=some (.slice UA pd.length uc):=by
       intro V hkv
       obtain ⟨y0,_⟩:=VC (hI2.kept hkv).blk
       exact ⟨(hI2.kept hkv).box.cell,y0,QC (hG2.keep0 hkv)⟩
      refine Xj (fun w'=>w'.cell? ⟨w.heap.size,0,none⟩=some (.pointer (some ⟨s,0,none⟩))∧w'.cell? ⟨s,0,none⟩=some (.int .i64 view)∧w'.cell? ⟨N,0,none⟩=some (.int .i64 nk)∧w'.cell? ⟨N,1,none⟩=some (.int .i64 nb)∧w'.cell? ⟨N,2,none⟩=some (.int .i64 nc)∧w'.cell? ⟨N,3,none⟩=some (.int .i64 ne)∧w'.cell? ⟨N,4,none⟩=some (.slice UA pd.length uc)) 12 (.held 0 (.held 1 (.held 2 (.held 3 (.held 4 (.held 5 (.two 6 (.held 7 (.held 8 (.held 9 (.loud 10 (.loud 11 .nil))))) 10 (.loud 6 (.held 7 (.held 8 (.held 9 (.loud 11 .nil))))))))))))
       (by kernel_rfl) (by kernel_rfl) ⟨(fun _ _ d _ _ h=>by cases d <;> exact h),(fun h=>by obtain ⟨_,_,h⟩:=h;exact h)⟩ ⟨hbx,c0,x0,x1,x2,x3,x4⟩ ?_
      simp only [RT.pick,PJ]
      iterate 6 (refine wpR_held ?_ (by rfl) ?_ ?_;rotate_left;(focus (rintro W ⟨hW1,hW2,hW3,hW4,hW5,hW6,hW7⟩;go_simp;try with_reducible rfl));simp only [Act.put,PU])
      have HSF:=JC hSf
      clear hbx c0 x0 x1 x2 x3 x4 hSf
      refine wpR_two ?_ ?_
      · refine wpR_loud (by rfl) (fun K hK=>?_)
        go_wp2_with (refine (hOf _ hkD2).mono ?_;rintro r w2 ⟨u,rfl,hu,hk2⟩;obtain ⟨YA,yc,rfl,_⟩:=JB hu)
        have hs2:=JA HSF _ hk2
        refine hK _ _ (hs2) ?_
        clear hK K
        try simp only [Act.put,PU]
        iterate 3 (refine wpR_held ?_ (by rfl) ?_ ?_;rotate_left;(focus (rintro W ⟨hW1,hW2,hW3,hW4,hW5,hW6,hW7⟩;go_simp;try with_reducible rfl));simp only [Act.put,PU])
        refine wpR_loud (by rfl) (fun K hK=>?_)
        go_wp2_with fail
        have hk3:Keep [] W.drew.drew (w2.alloc (.cells #[.int .i64 0,.int .i64 0,.int .i64 0,.int .i64 0,.int .i64 0,.int .i64 0,.int .i64 0,.slice none 0 0] 85)):=hk2.alloc _
        refine hK _ _ (JA HSF _ hk3) ?_
        clear hK K
        try simp only [Act.put,PU]
        refine wpR_loud (by rfl) (fun K hK=>?_)
        go_wp2_with fail
        have h8:=Blk.new w2 85 #[.int .i64 nk,.int .i64 view,.int .i64 k,.int .i64 nb,.int .i64 nc,.int .i64 ne,.int .i64 0,.slice YA pd.length yc]
        have hkV:Keep [] W.drew.drew (w2.alloc (.cells #[.int .i64 nk,.int .i64 view,.int .i64 k,.int .i64 nb,.int .i64 nc,.int .i64 ne,.int .i64 0,.slice YA pd.length yc] 85)):=hk2.alloc _
        have hu8:=ZD (YC hu (Nat.le_trans (JA HI).keep.size hkD2.size)) (.cells #[.int .i64 nk,.int .i64 view,.int .i64 k,.int .i64 nb,.int .i64 nc,.int .i64 ne,.int .i64 0,.slice YA pd.length yc] 85)
        refine hK _ _ (JA HSF _ hkV) ?_
        clear hK K
        try simp only [Act.put,PU]
        refine wpR_nil ?_
        have hE:=callsIn_wide (n:=3-1-1-1).2 (QR nk view k nb nc ne 0 YA pd.length yc pd _ (Rd.of_own hu8) (JA HM))
        unfold frv at hE
        change CallsIn (Fence.wide.inRound l) 0 _ _ _ _ _ at hE
        rw [show ((0:Nat):Int)=0 from rfl] at hE
        obtain ⟨g0,g1,g2,g3,g4,g5,g6,g7⟩:=YB h8
        go_wp2
        gi_wp2_with (first
         | (refine ⟨trivial,?_⟩
            refine hE.mono ?_
            clear hE
            rintro e w6 ⟨y,rfl,hy,hk6⟩
            obtain ⟨ZA,zc,rfl,_⟩:=JB hy
            have hkW6:Keep [] W w6:=hkD2.trans0 (hkV.trans0 hk6)
            have h1:=boxed_keep (JA H1) hkW6 (by simp)
            have hc7:=h1.cell
            have hf7:=h1.frozen
            rw [JA HOV] at hc7
            have hal:Keep [] w6 (w6.alloc (.cells #[.slice ZA (25+pd.length) zc] 40)):=(Keep.refl _ _).alloc _
            have hs6:=Nat.le_trans (JA HI).keep.size hkW6.size
            have HX1:=JC h1
            clear h1)
         | (gi_at_builtin
            refine elemBks.wpIn_app rfl _ _ rfl w.heap.size ov us.length (us.map Prod.fst) (JA HOV).symm (ZD (XB (JA H2) hkW6) _) ⟨w6.heap.size,0,none⟩ 1 1 [.slice ZA (25+pd.length) zc] rfl (VL _ _ _) (by simp [Value.oneCell']) (by omega) (by omega) (by simp;omega) ?_
            intro v' w' hv' hk' hat
            obtain ⟨VA,vc,rfl,_⟩:=JB hv'
            have hx7:=boxed_keep (boxed_keep (JA HX1) hal (by simp)) hk' (JA HN)
            have hc7':=hx7.cell
            have hf7':=hx7.frozen))
        have h1W:=JA H1
        have h2W:=JA H2
        have h3W:=JA H3
        have h1:=JA HX1
        have h2:=XB h2W hkW6
        have hK6:Keep ((w.heap.size+1) :: ov.ownBlock.toList) w6 (w'.setCell ⟨w.heap.size+1,0,none⟩ (.slice VA (us.length+1) vc)):=
         ((hal.mono (m:=(w.heap.size+1) :: ov.ownBlock.toList) (by simp)).trans hk' (fun x hx => .inl (List.mem_cons_of_mem _ hx))).setCell (.inl (by simp)) _
        have hKW:Keep ((w.heap.size+1) :: ov.ownBlock.toList) W (w'.setCell ⟨w.heap.size+1,0,none⟩ (.slice VA (us.length+1) vc)):=(hkW6.mono (by simp)).trans hK6 (fun x hx => .inl hx)
        have hge:∀ g∈(w.heap.size+1) :: ov.ownBlock.toList,w.heap.size≤g:=by
         intro g hg
         rcases List.mem_cons.1 hg with rfl | hg
         · omega
         · exact (own_mem h2W hg).1
        have hrow:∀ {u:Value} {xs:List Value} {m:Nat},w6.ownsRow w.heap.size 5 1 u m xs→∀ g,u.ownBlock=some g→g∉(w.heap.size+1) :: ov.ownBlock.toList:=by
         intro u xs m hu g hg hm
         rcases List.mem_cons.1 hm with rfl | hm
         · exact h1.not_row (by decide) hu hg.symm
         · exact own_ne hu h2 (by decide) hg (by simpa using hm)
        have hbox:∀ {B:Nat} {t:TypeId} {u:Value},Boxed W B t u→t≠40→B≠w.heap.size+1→B∉(w.heap.size+1) :: ov.ownBlock.toList:=by
         intro B t u hB ht hne hm
         rcases List.mem_cons.1 hm with e | hm
         · exact hne e
         · exact hB.not_row ht h2W (Eq.symm (by simpa using hm))
        have hp:=Yp (n₀:=w.heap.size) (bc:=w.heap.size+1+1) (p := .pointer (some ⟨s,0,none⟩)) hKW (JA HI).keep.size (by
         intro g hg o hgo
         rcases List.mem_cons.1 hg with rfl | hg
         · rw [show W.heap[_]? = _ from h1W] at hgo;cases hgo;rfl
         · exact own_cells h2W g hg o hgo) hge (fun hb=>hbox hb (by decide) (by omega)) w3.heap.size
        refine ⟨hp.1,hp.2,⟨⟨_,us++[(.slice ZA (25+pd.length) zc,QF nk view k nb nc ne 0 pd)],hx7.set _,?_,?_,?_,?_⟩,?_,?_,(JA HI).keep.trans hKW (fun x hx => .inr (hge x hx))⟩⟩
        · rw [List.length_append,List.map_append]
          exact own_set (by simpa using hv') (fun hm=>hx7.not_row (by decide) hv' (Eq.symm (by simpa using hm))) _
        · intro p hp
          rcases List.mem_append.1 hp with hp | hp
          · have h3:=XB (h3W p hp).1 hkW6
            exact ⟨QB h3 hK6 (hrow h3),(h3W p hp).2⟩
          · obtain rfl:=List.mem_singleton.1 hp
            have h3:=YC hy (base':=w.heap.size) (Nat.le_trans (JA HI).keep.size (Nat.le_trans hkD2.size hkV.size))
            exact ⟨by simpa using QB h3 hK6 (hrow h3),by simp;omega⟩
        · rw [List.map_append,JA H4,List.map_append,List.map_cons,List.map_nil,List.map_cons,List.map_nil,JN,List.length_map,← JA HK,if_neg (by omega)]
          simp [frB]
        · simp;omega
        · exact boxed_keep (JA HI).box hKW (hbox (JA HI).box (by decide) (by omega))
        · exact (JA HI).blk.keep hKW (fun hm=>by
           rcases List.mem_cons.1 hm with e | hm
           · have:=(JA HI).blk.lt;have:=h.lt;omega
           · exact own_blk_ne h2W (JA HI).blk (by decide) (by simpa using hm))
      · refine wpR_loud (by rfl) (fun K hK=>?_)
        go_wp2_with fail
        have hkA:Keep [] W.drew.drew (W.drew.drew.alloc (.cells #[.int .i64 0,.int .i64 0,.int .i64 0,.int .i64 0,.int .i64 0,.int .i64 0,.int .i64 0,.slice none 0 0] 85)):=(Keep.refl _ _).alloc _
        refine hK _ _ (JA HSF _ hkA) ?_
        clear hK K
        try simp only [Act.put,PU]
        refine wpR_loud (by rfl) (fun K hK=>?_)
        go_wp2_with (refine (hOf _ (hkD2.trans0 hkA)).mono ?_;rintro r w2 ⟨u,rfl,hu,hk2⟩;obtain ⟨YA,yc,rfl,_⟩:=JB hu)
        have hk3:Keep [] W.drew.drew w2:=hkA.trans0 hk2
        refine hK _ _ (JA HSF _ hk3) ?_
        clear hK K
        try simp only [Act.put,PU]
        iterate 3 (refine wpR_held ?_ (by rfl) ?_ ?_;rotate_left;(focus (rintro W ⟨hW1,hW2,hW3,hW4,hW5,hW6,hW7⟩;go_simp;try with_reducible rfl));simp only [Act.put,PU])
        have hz:Blk w2 W.heap.size 85 #[.int .i64 0,.int .i64 0,.int .i64 0,.int .i64 0,.int .i64 0,.int .i64 0,.int .i64 0,.slice none 0 0]:=(Blk.new W.drew.drew 85 #[.int .i64 0,.int .i64 0,.int .i64 0,.int .i64 0,.int .i64 0,.int .i64 0,.int .i64 0,.slice none 0 0]).keep0 hk2
        have hzl:=hz.lt
        obtain ⟨z0,z1,z2,z3,z4,z5,z6,z7⟩:=YB hz
        have q0:=hz.frozen 0
        have q1:=hz.frozen 1
        have q2:=hz.frozen 2
        have q3:=hz.frozen 3
        have q4:=hz.frozen 4
        have q5:=hz.frozen 5
        have q6:=hz.frozen 6
        have q7:=hz.frozen 7
        refine wpR_loud (by rfl) (fun K hK=>?_)
        go_wp2_with fail
        have h8:=hz.put8 (.int .i64 nk) (.int .i64 view) (.int .i64 k) (.int .i64 nb) (.int .i64 nc) (.int .i64 ne) (.int .i64 0) (.slice YA pd.length yc)
        have hk8':=Keep.put8 w2 W.heap.size (.int .i64 nk) (.int .i64 view) (.int .i64 k) (.int .i64 nb) (.int .i64 nc) (.int .i64 ne) (.int .i64 0) (.slice YA pd.length yc)
        unfold put8 at h8 hk8'
        have hkV:Keep [] W.drew.drew _:=hk3.trans hk8' (fun x hx => .inr (by simp at hx;subst hx;exact Nat.le_refl _))
        have hu8:=QB (YC hu (show w.heap.size≤_ from Nat.le_trans (JA HI).keep.size (Nat.le_trans hkD2.size hkA.size))) hk8' (fun g hg hm=>by have h1:=(own_mem hu (g:=g) (by simpa using hg)).1;simp at hm h1;omega)
        clear z0 z1 z2 z3 z4 z5 z6 z7 q0 q1 q2 q3 q4 q5 q6 q7
        refine hK _ _ (JA HSF _ hkV) ?_
        clear hK K
        try simp only [Act.put,PU]
        refine wpR_nil ?_
        have hE:=callsIn_wide (n:=3-1-1-1).2 (QR nk view k nb nc ne 0 YA pd.length yc pd _ (Rd.of_own hu8) (JA HM))
        unfold frv at hE
        change CallsIn (Fence.wide.inRound l) 0 _ _ _ _ _ at hE
        rw [show ((0:Nat):Int)=0 from rfl] at hE
        obtain ⟨g0,g1,g2,g3,g4,g5,g6,g7⟩:=YB h8
        go_wp2
        gi_wp2_with (first
         | (refine ⟨trivial,?_⟩
            refine hE.mono ?_
            clear hE
            rintro e w6 ⟨y,rfl,hy,hk6⟩
            obtain ⟨ZA,zc,rfl,_⟩:=JB hy
            have hkW6:Keep [] W w6:=hkD2.trans0 (hkV.trans0 hk6)
            have h1:=boxed_keep (JA H1) hkW6 (by simp)
            have hc7:=h1.cell
            have hf7:=h1.frozen
            rw [JA HOV] at hc7
            have hal:Keep [] w6 (w6.alloc (.cells #[.slice ZA (25+pd.length) zc] 40)):=(Keep.refl _ _).alloc _
            have hs6:=Nat.le_trans (JA HI).keep.size hkW6.size
            have HX1:=JC h1
            clear h1)
         | (gi_at_builtin
            refine elemBks.wpIn_app rfl _ _ rfl w.heap.size ov us.length (us.map Prod.fst) (JA HOV).symm (ZD (XB (JA H2) hkW6) _) ⟨w6.heap.size,0,none⟩ 1 1 [.slice ZA (25+pd.length) zc] rfl (VL _ _ _) (by simp [Value.oneCell']) (by omega) (by omega) (by simp;omega) ?_
            intro v' w' hv' hk' hat
            obtain ⟨VA,vc,rfl,_⟩:=JB hv'
            have hx7:=boxed_keep (boxed_keep (JA HX1) hal (by simp)) hk' (JA HN)
            have hc7':=hx7.cell
            have hf7':=hx7.frozen))
        have h1W:=JA H1
        have h2W:=JA H2
        have h3W:=JA H3
        have h1:=JA HX1
        have h2:=XB h2W hkW6
        have hK6:Keep ((w.heap.size+1) :: ov.ownBlock.toList) w6 (w'.setCell ⟨w.heap.size+1,0,none⟩ (.slice VA (us.length+1) vc)):=
         ((hal.mono (m:=(w.heap.size+1) :: ov.ownBlock.toList) (by simp)).trans hk' (fun x hx => .inl (List.mem_cons_of_mem _ hx))).setCell (.inl (by simp)) _
        have hKW:Keep ((w.heap.size+1) :: ov.ownBlock.toList) W (w'.setCell ⟨w.heap.size+1,0,none⟩ (.slice VA (us.length+1) vc)):=(hkW6.mono (by simp)).trans hK6 (fun x hx => .inl hx)
        have hge:∀ g∈(w.heap.size+1) :: ov.ownBlock.toList,w.heap.size≤g:=by
         intro g hg
         rcases List.mem_cons.1 hg with rfl | hg
         · omega
         · exact (own_mem h2W hg).1
        have hrow:∀ {u:Value} {xs:List Value} {m:Nat},w6.ownsRow w.heap.size 5 1 u m xs→∀ g,u.ownBlock=some g→g∉(w.heap.size+1) :: ov.ownBlock.toList:=by
         intro u xs m hu g hg hm
         rcases List.mem_cons.1 hm with rfl | hm
         · exact h1.not_row (by decide) hu hg.symm
         · exact own_ne hu h2 (by decide) hg (by simpa using hm)
        have hbox:∀ {B:Nat} {t:TypeId} {u:Value},Boxed W B t u→t≠40→B≠w.heap.size+1→B∉(w.heap.size+1) :: ov.ownBlock.toList:=by
         intro B t u hB ht hne hm
         rcases List.mem_cons.1 hm with e | hm
         · exact hne e
         · exact hB.not_row ht h2W (Eq.symm (by simpa using hm))
        have hp:=Yp (n₀:=w.heap.size) (bc:=w.heap.size+1+1) (p := .pointer (some ⟨s,0,none⟩)) hKW (JA HI).keep.size (by
         intro g hg o hgo
         rcases List.mem_cons.1 hg with rfl | hg
         · rw [show W.heap[_]? = _ from h1W] at hgo;cases hgo;rfl
         · exact own_cells h2W g hg o hgo) hge (fun hb=>hbox hb (by decide) (by omega)) w3.heap.size
        refine ⟨hp.1,hp.2,⟨⟨_,us++[(.slice ZA (25+pd.length) zc,QF nk view k nb nc ne 0 pd)],hx7.set _,?_,?_,?_,?_⟩,?_,?_,(JA HI).keep.trans hKW (fun x hx => .inr (hge x hx))⟩⟩
        · rw [List.length_append,List.map_append]
          exact own_set (by simpa using hv') (fun hm=>hx7.not_row (by decide) hv' (Eq.symm (by simpa using hm))) _
        · intro p hp
          rcases List.mem_append.1 hp with hp | hp
          · have h3:=XB (h3W p hp).1 hkW6
            exact ⟨QB h3 hK6 (hrow h3),(h3W p hp).2⟩
          · obtain rfl:=List.mem_singleton.1 hp
            have h3:=YC hy (base':=w.heap.size) (Nat.le_trans (JA HI).keep.size (Nat.le_trans hkD2.size hkV.size))
            exact ⟨by simpa using QB h3 hK6 (hrow h3),by simp;omega⟩
        · rw [List.map_append,JA H4,List.map_append,List.map_cons,List.map_nil,List.map_cons,List.map_nil,JN,List.length_map,← JA HK,if_neg (by omega)]
          simp [frB]
        · simp;omega
        · exact boxed_keep (JA HI).box hKW (hbox (JA HI).box (by decide) (by omega))
        · exact (JA HI).blk.keep hKW (fun hm=>by
           rcases List.mem_cons.1 hm with e | hm
           · have:=(JA HI).blk.lt;have:=h.lt;omega
           · exact own_blk_ne h2W (JA HI).blk (by decide) (by simpa using hm))
 case done=>
  intro D xs W hD hS hI hdef
  obtain ⟨ov,us,h1,h2,h3,h4,h5⟩:=hI.out
  have hc2:=h1.cell
  have hf2:=h1.frozen
  obtain ⟨OA,oc,hov,_⟩:=JB h2
  have H1:=JC h1
  have H2:=JC h2
  have H3:=JC h3
  have H4:=JC h4
  have hds:=(Array.getElem?_eq_some_iff.1 hdef).1
  clear h1 h2 h3 h4 b1 b2 bc h0 hw3 hw2 hw1 k1 k2 k3 kw hseq
  rw [hov] at hc2
  gi_wp2
  have h1:=JA H1
  have h2:=JA H2
  have h3:=JA H3
  have h4:=JA H4
  obtain ⟨W2,hW2⟩:∃ W2,W2=W.setCell ⟨w.heap.size+1,0,none⟩ (.slice OA us.length oc):=⟨_,rfl⟩
  rw [← hW2]
  have hK:Keep [w.heap.size+1] W W2:=by rw [hW2];exact (Keep.refl _ _).setCell (.inl (by simp)) _
  have hdef2:W2.heap[D]? = some (.deferred (some [])):=(hK.block D hds (by simp;omega)).trans hdef
  have r2:Boxed W2 (w.heap.size+1) 59 (.slice OA us.length oc):=by rw [hW2];exact h1.set _
  have hrow:∀ {u:Value} {xs:List Value} {m q:Nat} {e:TypeId},W.ownsRow w.heap.size e q u m xs→e≠59→∀ g,u.ownBlock=some g→g∉[w.heap.size+1]:=by
   intro u xs m q e hu he g hg hm
   simp only [List.mem_cons,List.not_mem_nil,or_false] at hm
   subst hm
   exact h1.not_row (Ne.symm he) hu hg.symm
  have h2':=QB h2 hK (hrow h2 (by decide))
  have h3':=fun p hp=>QB (h3 p hp).1 hK (hrow (h3 p hp).1 (by decide))
  have hkw:Keep [] w W2:=hI.keep.trans hK (fun x hx => .inr (by simp at hx;omega))
  have q2:=(boxed_putObj (.deferred none) r2 hdef2 rfl).cell
  refine ⟨by simp,.inl ⟨_,_,rfl,run_takeDeferred hdef2,?_⟩⟩
  rw [hov] at h2'
  refine ⟨.slice OA us.length oc,?_,OA,us.length,oc,us,rfl,?_,?_,?_,hkw.putObj (by omega) _,?_,fun p hp=>ownsRow_putObj (h3' p hp) (.deferred none) hdef2 rfl⟩
  · simp [results,Tryz.results40,go_sem,q2]
  · have:=Rd.of_ownN (ownsRow_putObj h2' (.deferred none) hdef2 rfl)
    simpa using this
  · intro p hp
    exact Bts.of_own (ownsRow_putObj (h3' p hp) (.deferred none) hdef2 rfl) (by have:=(h3 p hp).2;omega)
  · rw [h4,← hS]
  · simpa using ownsRow_putObj h2' (.deferred none) hdef2 rfl
theorem Jz (w0 w:World) (s view size epoch seq acked done:Nat) (L:Value) (os:List (Value×POp)) (h:Src w0 w s view size epoch seq acked done L os) (hfew:os.length≤500) (hsz:size≤16) (hac:acked≤1000000)
 (hmay:∀ i o,(os.map (·.2))[i]? = some o→FrMay o.k view ((done+1+i:Nat):Int) o.b o.c o.e 0 o.d∧o.k≠8∧o.k≠9) :
 Calls Tryz.prog 40 #[.pointer (some ⟨s,0,none⟩)] w fun e w'=>∃ (A:Option Addr) (m c:Nat) (us:List (Value×List UInt8)),e = .returned (.slice A m c)∧Rd w' A m (us.map Prod.fst)∧(∀ p∈us,Bts w' p.1 p.2)∧us.map Prod.snd=KH view acked size (done+1) (os.map (·.2))∧Keep [] w w':=
 (YAU w0 w s view size epoch seq acked done L os h hfew hsz hac hmay).mono fun _ _ ⟨A,m,c,us,h1,h2,h3,h4,h5,_⟩=>⟨A,m,c,us,h1,h2,h3,h4,h5⟩
end
section
open Go.RowKit
theorem Vb (view acked size:Nat):∀ (n:Nat) (l:List POp),acked+size<n→KH view acked size n l=[]
 | _,[],_=>by simp [KH]
 | n,o :: l,h=>by
   rw [KH,if_pos (.inr h),List.nil_append,Vb view acked size (n+1) l (by omega)]
theorem Yc (view acked size:Nat):∀ (n:Nat) (l:List POp),acked<n→n≤acked+size+1→KH view acked size n l=(List.range (min (acked+size+1-n) l.length)).map (fun k=>frB view (n+k) (l.getD k ⟨0,0,0,0,[]⟩))
 | _,[],_,_=>by simp [KH]
 | n,o :: l,h,h'=>by
   rcases Nat.lt_or_ge (acked+size) n with h1 | h1
   · rw [Vb _ _ _ _ _ h1,show acked+size+1-n=0 by omega];simp
   · rw [KH,if_neg (by omega),Yc view acked size (n+1) l (by omega) (by omega)]
     obtain ⟨q,hq⟩:∃ q,acked+size+1-n=q+1:=⟨acked+size-n,by omega⟩
     rw [hq,show acked+size+1-(n+1)=q by omega,List.length_cons,show min (q+1) (l.length+1)=min q l.length+1 by omega,List.range_succ_eq_map,List.map_cons,List.map_map]
     simp only [List.getD_cons_zero,Nat.add_zero,List.cons_append,List.nil_append,List.cons.injEq,true_and]
     apply List.map_congr_left
     intro k _
     simp only [Function.comp,List.getD_cons_succ]
     rw [show n+1+k=n+(k+1) by omega]
theorem Vc (view acked size:Nat):∀ (n:Nat) (l:List POp),n≤acked+1→KH view acked size n l=KH view acked size (acked+1) (l.drop (acked+1-n))
 | _,[],_=>by simp [KH]
 | n,o :: l,h=>by
   rcases Nat.lt_or_ge acked n with h1 | h1
   · rw [show n=acked+1 by omega];simp
   · rw [KH,if_pos (.inl h1),List.nil_append,Vc view acked size (n+1) l (by omega),show acked+1-n=(acked+1-(n+1))+1 by omega,List.drop_succ_cons]
end
end Go.Proofs.YtmoagodllhdemaaGreat
