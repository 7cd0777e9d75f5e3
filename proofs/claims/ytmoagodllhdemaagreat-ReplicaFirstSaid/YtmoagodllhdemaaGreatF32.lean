/-
  A part of the proof: lemmas, and contracts of functions; their conditions stand in them.
-/
import Derived.Test.YtmoagodllhdemaaGreatF24
import Derived.Test.YtmoagodllhdemaaGreatF26
import Derived.Test.YtmoagodllhdemaaGreatF31
import Derived.Test.YtmoagodllhdemaaGreatF23
import Derived.Test.YtmoagodllhdemaaGreatF11
namespace Go.Proofs.YtmoagodllhdemaaGreat
set_option linter.unusedSimpArgs false
set_option linter.unusedVariables false
section
open Go.RowKit Go.Shelf
structure PSt where
 mode:Nat
 view:Nat
 epoch:Nat
 seq:Nat
 done:Nat
 mount:Nat
 gen:Nat
structure PS where
 D:PDisk
 us:List (Nat×Nat)
 lv:List Nat
 W:PW
 I:PImage
 st:PSt
 slot:Nat
 lie0:List Nat
 lie1:List Nat
def PSt.cs (s:PSt):List Value:=[.int .i64 s.mode,.int .i64 s.view,.int .i64 s.epoch,.int .i64 s.seq,.int .i64 s.done,.int .i64 s.mount,.int .i64 s.gen]
structure StoreIs (w:World) (base s d g t p m:Nat) (Fd Ft Fw Fm:List Nat) (L0 L1:Value) (B:Nat) (S:PS):Prop where
 blk:Blk w s 119 #[.pointer (some ⟨d,0,none⟩),.pointer (some ⟨g,0,none⟩),.pointer (some ⟨t,0,none⟩),.pointer (some ⟨m,0,none⟩),.pointer (some ⟨p,0,none⟩),
  .int .i64 S.st.mode,.int .i64 S.st.view,.int .i64 S.st.epoch,.int .i64 S.st.seq,.int .i64 S.st.done,.int .i64 S.st.mount,.int .i64 S.st.gen,.int .i64 0,.int .i64 0,.int .i64 0,.int .i64 S.slot,L0,L1]
 log:LogIs w base d g t p Fd Ft Fw B S.D S.us S.lv S.W
 img:ImageAt w base m Fm S.I
 blen:S.I.bl.length=B
 l0:w.ownsRow base 3 1 L0 (pgs B) (QP S.lie0)
 l1:w.ownsRow base 3 1 L1 (pgs B) (QP S.lie1)
 sbase:base≤s
 gbase:base≤g
 apm:Apart Fm (g :: (Fd++(Ft++Fw)))
 aps:s∉g :: (Fd++(Ft++(Fw++Fm)))
 apl:Apart (L0.ownBlock.toList++L1.ownBlock.toList) (s :: g :: (Fd++(Ft++(Fw++Fm))))
def XY (s g:Nat) (Fd Ft Fw Fm:List Nat) (L0 L1:Value):List Nat:=s :: g :: (Fd++(Ft++(Fw++(Fm++(L0.ownBlock.toList++L1.ownBlock.toList)))))
def StoreAt (w:World) (base s d:Nat) (F:List Nat) (B:Nat) (S:PS):Prop:=∃ g t p m Fd Ft Fw Fm L0 L1,StoreIs w base s d g t p m Fd Ft Fw Fm L0 L1 B S∧F=XY s g Fd Ft Fw Fm L0 L1
namespace StoreIs
variable {w w':World} {base s d g t p m:Nat} {Fd Ft Fw Fm l:List Nat} {L0 L1:Value} {B:Nat} {S:PS}
theorem keep (h:StoreIs w base s d g t p m Fd Ft Fw Fm L0 L1 B S) (hk:Keep l w w') (ha:Apart (XY s g Fd Ft Fw Fm L0 L1) l):StoreIs w' base s d g t p m Fd Ft Fw Fm L0 L1 B S:=by
 have ha':∀ x,x=s∨x=g∨x∈Fd∨x∈Ft∨x∈Fw∨x∈Fm∨x∈L0.ownBlock.toList∨x∈L1.ownBlock.toList→x∉l:=fun x hx=>ha x (by simpa only [XY,List.mem_cons,List.mem_append] using hx)
 exact ⟨h.blk.keep hk (ha' _ (by simp)),h.log.keep hk (ha' _ (by simp)) (fun x hx=>ha' x (by simp [hx])) (fun x hx=>ha' x (by simp [hx])) (fun x hx=>ha' x (by simp [hx])),h.img.keep hk (fun x hx=>ha' x (by simp [hx])),h.blen,
  KA h.l0 hk (fun x hx=>ha' x (by simp [hx])),KA h.l1 hk (fun x hx=>ha' x (by simp [hx])),h.sbase,h.gbase,h.apm,h.aps,h.apl⟩
theorem keep0 (h:StoreIs w base s d g t p m Fd Ft Fw Fm L0 L1 B S) (hk:Keep [] w w'):StoreIs w' base s d g t p m Fd Ft Fw Fm L0 L1 B S:=h.keep hk Apart.nil_right
theorem lt (h:StoreIs w base s d g t p m Fd Ft Fw Fm L0 L1 B S):∀ x∈XY s g Fd Ft Fw Fm L0 L1,x<w.heap.size:=by
 intro x hx
 simp only [XY,List.mem_cons,List.mem_append] at hx
 rcases hx with rfl | rfl | hx | hx | hx | hx | hx | hx
 · exact h.blk.lt
 · exact h.log.geom.lt
 · exact h.log.disk.lt x hx
 · exact h.log.tab.lt x hx
 · exact h.log.wri.lt x hx
 · exact h.img.lt x hx
 · exact (own_mem h.l0 hx).2
 · exact (own_mem h.l1 hx).2
theorem ge (h:StoreIs w base s d g t p m Fd Ft Fw Fm L0 L1 B S):∀ x∈XY s g Fd Ft Fw Fm L0 L1,base≤x:=by
 intro x hx
 simp only [XY,List.mem_cons,List.mem_append] at hx
 rcases hx with rfl | rfl | hx | hx | hx | hx | hx | hx
 · exact h.sbase
 · exact h.gbase
 · exact h.log.disk.ge x hx
 · exact h.log.tab.ge x hx
 · exact h.log.wri.ge x hx
 · exact h.img.ge x hx
 · exact (own_mem h.l0 hx).1
 · exact (own_mem h.l1 hx).1
theorem setLog (h:StoreIs w base s d g t p m Fd Ft Fw Fm L0 L1 B S) {Fd' Fw':List Nat} {D':PDisk} {us':List (Nat×Nat)} {lv':List Nat} {W':PW} (hl:LogIs w' base d g t p Fd' Ft Fw' B D' us' lv' W') (hk:Keep (Fd++(Ft++Fw)) w w') (hd:Grow w Fd Fd') (hw:Grow w Fw Fw') :
 StoreIs w' base s d g t p m Fd' Ft Fw' Fm L0 L1 B { S with D:=D',us:=us',lv:=lv',W:=W' }∧Grow w (XY s g Fd Ft Fw Fm L0 L1) (XY s g Fd' Ft Fw' Fm L0 L1):=by
 have hsn:∀ x,x∈Fd++(Ft++Fw)→x≠s:=fun x hx e=>h.aps (by subst e;simp only [List.mem_cons,List.mem_append] at hx ⊢;rcases hx with hx | hx | hx <;> simp [hx])
 have hmn:∀ x∈Fm,x∉Fd++(Ft++Fw):=fun x hx hm=>h.apm x hx (List.mem_cons_of_mem _ hm)
 have hln:∀ x∈L0.ownBlock.toList++L1.ownBlock.toList,x∉Fd++(Ft++Fw):=fun x hx hm=>h.apl x hx (by simp only [List.mem_cons,List.mem_append] at hm ⊢;rcases hm with hm | hm | hm <;> simp [hm])
 have hgr:∀ {A A':List Nat} {x:Nat},Grow w A A'→x<w.heap.size→x∉A→x∉A':=fun hg hx hn hm=>(hg _ hm).elim hn (by omega)
 have hslt:=h.blk.lt
 refine ⟨⟨h.blk.keep hk (fun hm=>hsn _ hm rfl),hl,h.img.keep hk hmn,h.blen,KA h.l0 hk (fun x hx=>hln x (List.mem_append_left _ (by simpa using hx))),KA h.l1 hk (fun x hx=>hln x (List.mem_append_right _ (by simpa using hx))),h.sbase,h.gbase,?_,?_,?_⟩,?_⟩
 · intro x hx hm
   have hxl:=h.img.lt x hx
   have h0:=h.apm x hx
   simp only [List.mem_cons,List.mem_append,not_or] at h0 hm
   rcases hm with hm | hm | hm | hm
   · exact h0.1 hm
   · exact hgr hd hxl h0.2.1 hm
   · exact h0.2.2.1 hm
   · exact hgr hw hxl h0.2.2.2 hm
 · intro hm
   have h0:=h.aps
   simp only [List.mem_cons,List.mem_append,not_or] at h0 hm
   rcases hm with hm | hm | hm | hm | hm
   · exact h0.1 hm
   · exact hgr hd hslt h0.2.1 hm
   · exact h0.2.2.1 hm
   · exact hgr hw hslt h0.2.2.2.1 hm
   · exact h0.2.2.2.2 hm
 · intro x hx hm
   have hxl:x<w.heap.size:=by
    rcases List.mem_append.1 hx with hx | hx
    · exact (own_mem h.l0 hx).2
    · exact (own_mem h.l1 hx).2
   have h0:=h.apl x hx
   simp only [List.mem_cons,List.mem_append,not_or] at h0 hm
   rcases hm with hm | hm | hm | hm | hm | hm
   · exact h0.1 hm
   · exact h0.2.1 hm
   · exact hgr hd hxl h0.2.2.1 hm
   · exact h0.2.2.2.1 hm
   · exact hgr hw hxl h0.2.2.2.2.1 hm
   · exact h0.2.2.2.2.2 hm
 · intro x hx
   simp only [XY,List.mem_cons,List.mem_append] at hx ⊢
   rcases hx with hx | hx | hx | hx | hx | hx | hx | hx
   · simp [hx]
   · simp [hx]
   · exact (hd x hx).imp (fun h=>by simp [h]) id
   · simp [hx]
   · exact (hw x hx).imp (fun h=>by simp [h]) id
   · simp [hx]
   · simp [hx]
   · simp [hx]
theorem setImg (h:StoreIs w base s d g t p m Fd Ft Fw Fm L0 L1 B S) {I':PImage} (hi:ImageAt w' base m Fm I') (hb:I'.bl.length=S.I.bl.length) (hk:Keep Fm w w') :
 StoreIs w' base s d g t p m Fd Ft Fw Fm L0 L1 B { S with I:=I' }:=by
 have ha:∀ x,x∈s :: g :: (Fd++(Ft++Fw))→x∉Fm:=fun x hx hm=>by
  rcases List.mem_cons.1 hx with rfl | hx
  · exact h.aps (by simp [hm])
  · exact h.apm x hm hx
 have hl:∀ x∈L0.ownBlock.toList++L1.ownBlock.toList,x∉Fm:=fun x hx hm=>h.apl x hx (by simp [hm])
 exact ⟨h.blk.keep hk (ha _ (by simp)),h.log.keep hk (ha _ (by simp)) (fun x hx=>ha x (by simp [hx])) (fun x hx=>ha x (by simp [hx])) (fun x hx=>ha x (by simp [hx])),hi,hb.trans h.blen,
  KA h.l0 hk (fun x hx=>hl x (List.mem_append_left _ (by simpa using hx))),KA h.l1 hk (fun x hx=>hl x (List.mem_append_right _ (by simpa using hx))),h.sbase,h.gbase,h.apm,h.aps,h.apl⟩
theorem setSt (h:StoreIs w base s d g t p m Fd Ft Fw Fm L0 L1 B S) (st:PSt) (hb:Blk w' s 119 #[.pointer (some ⟨d,0,none⟩),.pointer (some ⟨g,0,none⟩),.pointer (some ⟨t,0,none⟩),.pointer (some ⟨m,0,none⟩),.pointer (some ⟨p,0,none⟩),
 .int .i64 st.mode,.int .i64 st.view,.int .i64 st.epoch,.int .i64 st.seq,.int .i64 st.done,.int .i64 st.mount,.int .i64 st.gen,.int .i64 0,.int .i64 0,.int .i64 0,.int .i64 S.slot,L0,L1]) (hk:Keep [s] w w') :
 StoreIs w' base s d g t p m Fd Ft Fw Fm L0 L1 B { S with st:=st }:=by
 have ha:∀ x,x∈g :: (Fd++(Ft++(Fw++Fm)))→x∉[s]:=fun x hx hm=>by
  simp at hm;subst hm;exact h.aps hx
 have hl:∀ x∈L0.ownBlock.toList++L1.ownBlock.toList,x∉[s]:=fun x hx hm=>h.apl x hx (by simp at hm;simp [hm])
 exact ⟨hb,h.log.keep hk (ha _ (by simp)) (fun x hx=>ha x (by simp [hx])) (fun x hx=>ha x (by simp [hx])) (fun x hx=>ha x (by simp [hx])),h.img.keep hk (fun x hx=>ha x (by simp [hx])),h.blen,
  KA h.l0 hk (fun x hx=>hl x (List.mem_append_left _ (by simpa using hx))),KA h.l1 hk (fun x hx=>hl x (List.mem_append_right _ (by simpa using hx))),h.sbase,h.gbase,h.apm,h.aps,h.apl⟩
end StoreIs
namespace StoreAt
variable {w w':World} {base s d:Nat} {F l:List Nat} {B:Nat} {S:PS}
theorem keep (h:StoreAt w base s d F B S) (hk:Keep l w w') (ha:Apart F l):StoreAt w' base s d F B S:=by
 obtain ⟨g,t,p,m,Fd,Ft,Fw,Fm,L0,L1,h,rfl⟩:=h
 exact ⟨g,t,p,m,Fd,Ft,Fw,Fm,L0,L1,h.keep hk ha,rfl⟩
theorem keep0 (h:StoreAt w base s d F B S) (hk:Keep [] w w'):StoreAt w' base s d F B S:=h.keep hk Apart.nil_right
theorem lt (h:StoreAt w base s d F B S):∀ x∈F,x<w.heap.size:=by obtain ⟨g,t,p,m,Fd,Ft,Fw,Fm,L0,L1,h,rfl⟩:=h;exact h.lt
theorem ge (h:StoreAt w base s d F B S):∀ x∈F,base≤x:=by obtain ⟨g,t,p,m,Fd,Ft,Fw,Fm,L0,L1,h,rfl⟩:=h;exact h.ge
end StoreAt
theorem JE {w:World} {g:Nat} {t:TypeId} {x0 x1 x2 x3 x4 x5 x6 x7 x8 x9 x10 x11 x12 x13 x14 x15 x16 x17:Value} (h:Blk w g t #[x0,x1,x2,x3,x4,x5,x6,x7,x8,x9,x10,x11,x12,x13,x14,x15,x16,x17]) :
 w.cell? ⟨g,0,none⟩=some x0∧w.cell? ⟨g,1,none⟩=some x1∧w.cell? ⟨g,2,none⟩=some x2∧w.cell? ⟨g,3,none⟩=some x3∧w.cell? ⟨g,4,none⟩=some x4∧w.cell? ⟨g,5,none⟩=some x5∧w.cell? ⟨g,6,none⟩=some x6∧w.cell? ⟨g,7,none⟩=some x7∧w.cell? ⟨g,8,none⟩=some x8∧w.cell? ⟨g,9,none⟩=some x9 ∧
 w.cell? ⟨g,10,none⟩=some x10∧w.cell? ⟨g,11,none⟩=some x11∧w.cell? ⟨g,12,none⟩=some x12∧w.cell? ⟨g,13,none⟩=some x13∧w.cell? ⟨g,14,none⟩=some x14∧w.cell? ⟨g,15,none⟩=some x15∧w.cell? ⟨g,16,none⟩=some x16∧w.cell? ⟨g,17,none⟩=some x17:=
 ⟨by simpa using h.cell 0,by simpa using h.cell 1,by simpa using h.cell 2,by simpa using h.cell 3,by simpa using h.cell 4,by simpa using h.cell 5,by simpa using h.cell 6,by simpa using h.cell 7,by simpa using h.cell 8,by simpa using h.cell 9,
   by simpa using h.cell 10,by simpa using h.cell 11,by simpa using h.cell 12,by simpa using h.cell 13,by simpa using h.cell 14,by simpa using h.cell 15,by simpa using h.cell 16,by simpa using h.cell 17⟩
end
section
open Go.RowKit
def XZ (B:Nat) (lv:List Nat) (a:Nat) (gone:List Int):List Nat:=
 gone.foldl (fun lv x=>if 0<x then XK lv ((x.toNat-(6+4*pgs B)) / 24) (-1) else lv) (if a=0 then lv else XK lv ((a-(6+4*pgs B)) / 24) 1)
def Wrote (B:Nat) (S:PS) (b:Nat) (bs:List UInt8) (S':PS):Prop:=
 ∃ D' us' lv1 W' a,Added B S.D S.us S.lv S.W ⟨1,b,0,0⟩ bs D' us' lv1 W' a ∧
   S'={ S with D:=D',us:=us',lv:=XZ B lv1 a [XF (S.I.ol.getD b 0) a],W:=W',I:={ S.I with ol:=S.I.ol.set b a,od:=JK S.I.ol S.I.od b a },st:={ S.st with seq:=S.st.seq+1 } }
def Trimmed (B:Nat) (S:PS) (b n:Nat) (S':PS):Prop:=
 ∃ D' us' lv1 W' a,Added B S.D S.us S.lv S.W ⟨2,b,n,0⟩ [] D' us' lv1 W' a ∧
   S'={ S with D:=D',us:=us',lv:=XZ B lv1 0 (VF b n S.I.ol S.I.od).1,W:=W',I:={ S.I with ol:=(VF b n S.I.ol S.I.od).2.1,od:=(VF b n S.I.ol S.I.od).2.2 },st:={ S.st with seq:=S.st.seq+1 } }
def Marked (B:Nat) (S:PS) (e:Nat) (S':PS):Prop:=
 ∃ D1 us1 lv1 W1 a D2 us2 W2 bd od,Added B S.D S.us S.lv S.W ⟨3,0,0,e⟩ [] D1 us1 lv1 W1 a∧Emitted B D1 us1 W1 D2 us2 W2 ∧
   S'={ S with D:=D2.flush,us:=us2,lv:=XZ B lv1 0 (Zl S.I.bl S.I.ol S.I.ol.length),W:=W2,I:=⟨Zg S.I.bl S.I.ol S.I.ol.length,bd,Xg S.I.ol S.I.ol.length,od⟩,st:={ S.st with epoch:=e,seq:=S.st.seq+1,done:=S.st.seq+1 } }
def RefOk (B:Nat) (S:PS) (a:Int):Prop:=a=0∨(0<a∧Lies B S.us S.W a.toNat)
def zeros64:List UInt8:=List.replicate 64 0
def JH (B:Nat) (S:PS) (a:Int):List UInt8:=if a=0 then zeros64 else JL B S.D S.W a.toNat
structure Good (B:Nat) (S:PS) (k j:Nat):Prop where
 cap:Cap S.D S.us S.W k j
 now:S.D.now.length=S.D.n*64
 many:S.D.n=198+4*pgs B
 flt:∀ x∈S.D.faults,x=false
 flen:S.D.faults.length=S.D.n
 b1:1≤B
 b64:B≤64
 bl:S.I.bl.length=B
 ol:S.I.ol.length=B
 brefs:∀ x∈S.I.bl,RefOk B S x
 orefs:∀ x∈S.I.ol,x = -1∨RefOk B S x
 seq:S.st.seq≤j
 epoch:S.st.epoch≤j
 done:S.st.done≤S.st.seq
def VK (B:Nat) (S:PS):List (List UInt8):=S.I.bl.map (JH B S)
def VL (B:Nat) (S:PS):List (Option (List UInt8)):=S.I.ol.map (fun a=>if a = -1 then none else some (JH B S a))
theorem Qb {B:Nat} {S S':PS} (h:∀ x,Lies B S.us S.W x→Lies B S'.us S'.W x∧JL B S'.D S'.W x=JL B S.D S.W x) {a:Int} (ha:RefOk B S a):RefOk B S' a∧JH B S' a=JH B S a:=by
 rcases ha with rfl | ⟨h0,hl⟩
 · exact ⟨.inl rfl,rfl⟩
 · obtain ⟨h1,h2⟩:=h _ hl
   exact ⟨.inr ⟨h0,h1⟩,by unfold JH;rw [if_neg (by omega),if_neg (by omega)];exact h2⟩
theorem KY {B:Nat} {S S':PS} (h:∀ x,Lies B S.us S.W x→Lies B S'.us S'.W x∧JL B S'.D S'.W x=JL B S.D S.W x) {l:List Int} (hl:∀ a∈l,RefOk B S a):(∀ a∈l,RefOk B S' a)∧l.map (JH B S')=l.map (JH B S):=
 ⟨fun a ha=>(Qb h (hl a ha)).1,List.map_congr_left fun a ha=>(Qb h (hl a ha)).2⟩
theorem ZY {B:Nat} {S S':PS} (h:∀ x,Lies B S.us S.W x→Lies B S'.us S'.W x∧JL B S'.D S'.W x=JL B S.D S.W x) {l:List Int} (hl:∀ a∈l,a = -1∨RefOk B S a) :
 (∀ a∈l,a = -1∨RefOk B S' a)∧l.map (fun a=>if a = -1 then none else some (JH B S' a))=l.map (fun a=>if a = -1 then none else some (JH B S a)):=
 ⟨fun a ha=>(hl a ha).imp id (fun h'=>(Qb h h').1),List.map_congr_left fun a ha=>by
   rcases hl a ha with rfl | h'
   · rfl
   · rw [(Qb h h').2]⟩
theorem RefOk.range {B:Nat} {S:PS} {a:Int} (h:RefOk B S a) (h64:B≤64):0≤a∧a<4096:=by
 rcases h with rfl | ⟨h0,hl⟩
 · omega
 · have:=hl.hi
   have:pgs B≤5:=by unfold pgs;omega
   omega
theorem Wrote.good {B:Nat} {S S':PS} {b k j:Nat} {bs:List UInt8} (h:Wrote B S b bs S') (hg:Good B S k j) (hk:k≤50) (hb:b<B) (hl:bs.length=64) :
 Good B S' (k+1) (j+1)∧VK B S'=VK B S∧VL B S'=(VL B S).set b (some bs)∧S'.st={ S.st with seq:=S.st.seq+1 }:=by
 obtain ⟨D',us',lv1,W',a,hA,rfl⟩:=h
 have hmay:PItem.May ⟨1,b,0,0⟩ := .inl ⟨.inl rfl,by have:=hg.b64;simp only;omega,rfl,rfl⟩
 have hc:=hg.cap.added hk hmay (fun _=>hl) hA
 obtain ⟨r1,r2,r3,r4,r5⟩:=hA.reads hg.cap hk hg.now hg.many
 obtain ⟨ra,rb⟩:=r5 rfl
 have hK:∀ x,Lies B S.us S.W x→Lies B us' W' x∧JL B D' W' x=JL B S.D S.W x:=fun x hx=>⟨(r4 x hx).1,(r4 x hx).2.1⟩
 have hKb:=KY (B:=B) (S:=S) (S':={ S with D:=D',us:=us',W:=W' }) hK hg.brefs
 have hKo:=ZY (B:=B) (S:=S) (S':={ S with D:=D',us:=us',W:=W' }) hK hg.orefs
 have h0:a≠0:=by have:=ra.lo;omega
 refine ⟨⟨hc,r1,r2.trans hg.many,by simp only;rw [r3];exact hg.flt,by simp only;rw [r3,r2];exact hg.flen,hg.b1,hg.b64,hg.bl,by simpa using hg.ol,hKb.1,?_,by have:=hg.seq;simp only;omega,by have:=hg.epoch;simp only;omega,by have:=hg.done;simp only;omega⟩,hKb.2,?_,rfl⟩
 · intro x hx
   rcases List.mem_or_eq_of_mem_set hx with hx | rfl
   · exact hKo.1 x hx
   · exact .inr (.inr ⟨by omega,by simpa using ra⟩)
 · unfold VL
   simp only
   rw [List.map_set]
   congr 1
   · exact hKo.2
   · rw [if_neg (by omega)]
     unfold JH
     rw [if_neg (by omega)]
     simp only [Int.toNat_natCast]
     rw [rb]
theorem Zc (b n:Nat) (l:List Int) (ds:List Bool) (x:Nat):(VF b n l ds).2.1[x]? = if b≤x∧x<b+n∧x<l.length then some 0 else l[x]? := by
 induction n with
 | zero=>rw [if_neg (by omega)];rfl
 | succ n ih=>
   rw [QO]
   have hst:((YM b (VF b n l ds) n).2.1)=(VF b n l ds).2.1.set (b+n) 0:=rfl
   rw [hst,List.getElem?_set,ih]
   have hlen:=(KI b n l ds).1
   rw [hlen]
   split
   · rename_i e
     subst e
     by_cases hx:b+n<l.length
     · rw [if_pos hx,if_pos (by omega)]
     · rw [if_neg hx,if_neg (by omega),List.getElem?_eq_none (by omega)]
   · rename_i e
     by_cases hx:b≤x∧x<b+n∧x<l.length
     · rw [if_pos hx,if_pos (by omega)]
     · rw [if_neg hx,if_neg (by omega)]
def QS {α:Type} (l:List α) (b n:Nat) (v:α):List α:=(List.range l.length).map fun x=>if b≤x∧x<b+n then v else l.getD x v
theorem YU {α:Type} (l:List α) (b n:Nat) (v:α) (x:Nat):(QS l b n v)[x]? = if b≤x∧x<b+n∧x<l.length then some v else l[x]? := by
 unfold QS
 rw [List.getElem?_map]
 by_cases hx:x<l.length
 · rw [List.getElem?_range hx]
   simp only [Option.map_some]
   split
   · rw [if_pos (by omega)]
   · rw [if_neg (by omega),List.getD_eq_getElem?_getD,List.getElem?_eq_getElem hx];rfl
 · rw [List.getElem?_eq_none (by simpa using hx),if_neg (by omega),List.getElem?_eq_none (by omega)];rfl
theorem Trimmed.good {B:Nat} {S S':PS} {b n k j:Nat} (h:Trimmed B S b n S') (hg:Good B S k j) (hk:k≤50) (hn:1≤n) (hb:b+n≤B) :
 Good B S' (k+1) (j+1)∧VK B S'=VK B S∧VL B S'=QS (VL B S) b n (some zeros64)∧S'.st={ S.st with seq:=S.st.seq+1 }:=by
 obtain ⟨D',us',lv1,W',a,hA,rfl⟩:=h
 have hmay:PItem.May ⟨2,b,n,0⟩ := .inr (.inl ⟨.inl rfl,by have:=hg.b64;simp only;omega,hn,by have:=hg.b64;simp only;omega,rfl⟩)
 have hc:=hg.cap.added hk hmay (fun h=>by cases h) hA
 obtain ⟨r1,r2,r3,r4,r5⟩:=hA.reads hg.cap hk hg.now hg.many
 have hK:∀ x,Lies B S.us S.W x→Lies B us' W' x∧JL B D' W' x=JL B S.D S.W x:=fun x hx=>⟨(r4 x hx).1,(r4 x hx).2.1⟩
 have hKb:=KY (B:=B) (S:=S) (S':={ S with D:=D',us:=us',W:=W' }) hK hg.brefs
 have hKo:=ZY (B:=B) (S:=S) (S':={ S with D:=D',us:=us',W:=W' }) hK hg.orefs
 have hol:=hg.ol
 have hlen:=(KI b n S.I.ol S.I.od).1
 refine ⟨⟨hc,r1,r2.trans hg.many,by simp only;rw [r3];exact hg.flt,by simp only;rw [r3,r2];exact hg.flen,hg.b1,hg.b64,hg.bl,by simp only;rw [hlen];exact hol,hKb.1,?_,by have:=hg.seq;simp only;omega,by have:=hg.epoch;simp only;omega,by have:=hg.done;simp only;omega⟩,hKb.2,?_,rfl⟩
 · intro x hx
   obtain ⟨i,hi⟩:=List.getElem?_of_mem hx
   rw [Zc] at hi
   split at hi
   · cases hi;exact .inr (.inl rfl)
   · exact hKo.1 x (List.mem_of_getElem? hi)
 · apply List.ext_getElem?
   intro x
   rw [YU]
   unfold VL
   simp only [List.getElem?_map,List.length_map]
   rw [Zc]
   split
   · rfl
   · rw [← List.getElem?_map,← List.getElem?_map]
     exact congrArg (·[x]?) hKo.2
end
section
open Go.RowKit
def XO (base:List (List UInt8)) (over:List (Option (List UInt8))):List (List UInt8):=List.zipWith (fun b o=>o.getD b) base over
theorem Jg {bl ol:List Int} (h:bl.length=ol.length):Zg bl ol ol.length=List.zipWith (fun b o=>if o = -1 then b else o) bl ol:=by
 unfold Zg
 rw [List.take_of_length_le (by simp;omega),List.drop_of_length_le (by omega),List.append_nil]
theorem XN (ol:List Int):Xg ol ol.length=List.replicate ol.length (-1):=by
 unfold Xg
 rw [List.drop_of_length_le (by omega),List.append_nil]
theorem Marked.good {B:Nat} {S S':PS} {e k j:Nat} (h:Marked B S e S') (hg:Good B S k j) (hk:k≤50) (he:1≤e∧e≤j+1) (hj:j≤100000) :
 Good B S' (k+1) (j+2)∧VK B S'=XO (VK B S) (VL B S)∧VL B S'=List.replicate B none∧S'.st={ S.st with epoch:=e,seq:=S.st.seq+1,done:=S.st.seq+1 }:=by
 obtain ⟨D1,us1,lv1,W1,a,D2,us2,W2,bd,od,hA,hE,rfl⟩:=h
 have hmay:PItem.May ⟨3,0,0,e⟩ := .inr (.inr (.inl ⟨rfl,rfl,rfl,he.1,by simp only;omega⟩))
 have hc:=hg.cap.added hk hmay (fun h=>by cases h) hA
 obtain ⟨r1,r2,r3,r4,r5⟩:=hA.reads hg.cap hk hg.now hg.many
 have hc2:=hc.mark hE 1 (by omega) D2.flush (by show D2.acts+1≤_;omega)
 obtain ⟨q1,q2⟩:=hE.reads hc.ok r1 (r2.trans hg.many) hc.seg hc.off
 obtain ⟨_,_,_,_,_,_,_,_,_,_,_,f1,_,_,f4⟩:=hE.facts hc.ok
 have hK:∀ x,Lies B S.us S.W x→Lies B us2 W2 x∧JL B D2.flush W2 x=JL B S.D S.W x:=by
  intro x hx
  obtain ⟨a1,a2,_⟩:=r4 x hx
  obtain ⟨b1,b2⟩:=q2 x a1
  exact ⟨b1,b2.trans a2⟩
 have hKb:=KY (B:=B) (S:=S) (S':={ S with D:=D2.flush,us:=us2,W:=W2 }) hK hg.brefs
 have hKo:=ZY (B:=B) (S:=S) (S':={ S with D:=D2.flush,us:=us2,W:=W2 }) hK hg.orefs
 have hbl:=hg.bl
 have hol:=hg.ol
 have hlen:S.I.bl.length=S.I.ol.length:=by omega
 refine ⟨⟨hc2,q1,(f1.trans r2).trans hg.many,?_,?_,hg.b1,hg.b64,?_,?_,?_,?_,by have:=hg.seq;simp only;omega,by simp only;omega,by simp only;omega⟩,?_,?_,rfl⟩
 · show ∀ x∈D2.faults,x=false
   rw [f4,r3];exact hg.flt
 · show D2.faults.length=D2.n
   rw [f4,r3,f1,r2];exact hg.flen
 · simp only;rw [Jg hlen];simp;omega
 · simp only;rw [XN];simp;omega
 · intro x hx
   simp only at hx
   rw [Jg hlen] at hx
   obtain ⟨i,hi⟩:=List.getElem?_of_mem hx
   rw [List.getElem?_zipWith] at hi
   split at hi
   · rename_i u v hu hv
     simp only [Option.some.injEq] at hi
     subst hi
     split
     · exact hKb.1 u (List.mem_of_getElem? hu)
     · exact (hKo.1 v (List.mem_of_getElem? hv)).resolve_left (by assumption)
   · cases hi
 · intro x hx
   simp only at hx
   rw [XN] at hx
   exact .inl (List.eq_of_mem_replicate hx)
 · have e1:VK B S=S.I.bl.map (JH B { S with D:=D2.flush,us:=us2,W:=W2 }):=hKb.2.symm
   have e2:VL B S=S.I.ol.map (fun a=>if a = -1 then none else some (JH B { S with D:=D2.flush,us:=us2,W:=W2 } a)):=hKo.2.symm
   rw [e1,e2]
   unfold VK XO
   simp only
   rw [Jg hlen]
   apply List.ext_getElem?
   intro i
   simp only [List.getElem?_map,List.getElem?_zipWith]
   rcases S.I.bl[i]? with _ | u <;> rcases S.I.ol[i]? with _ | v
   · rfl
   · rfl
   · rfl
   · simp only [Option.map_some,Option.some.injEq]
     split <;> rfl
 · unfold VL
   simp only
   rw [XN,List.map_replicate,if_pos rfl,hol]
end
section
open Go.RowKit
def VP (B:Nat) (o:POp):Prop:=
 (o.k=1∧0≤o.b∧o.b<B∧o.d.length=64)∨(o.k=2∧0≤o.b∧1≤o.c∧o.b+o.c≤B)∨(o.k=3∧1≤o.e∧o.e≤2147483647)
def Does (B:Nat) (S:PS) (o:POp) (S':PS):Prop:=
 (o.k=1∧Wrote B S o.b.toNat o.d S')∨(o.k=2∧Trimmed B S o.b.toNat o.c.toNat S')∨(o.k=3∧o.e=S.st.epoch+1∧Marked B S o.e.toNat S')
theorem Good.mono {B:Nat} {S:PS} {k k' j j':Nat} (h:Good B S k j) (hk:k≤k') (hj:j≤j'):Good B S k' j':=
 ⟨h.cap.mono hk hj,h.now,h.many,h.flt,h.flen,h.b1,h.b64,h.bl,h.ol,h.brefs,h.orefs,Nat.le_trans h.seq hj,Nat.le_trans h.epoch hj,h.done⟩
def Jm (st:PSt) (o:POp):PSt:=if o.k=3 then { st with epoch:=st.epoch+1,seq:=st.seq+1,done:=st.seq+1 } else { st with seq:=st.seq+1 }
theorem Does.good {B:Nat} {S S':PS} {o:POp} {k j:Nat} (h:Does B S o S') (ho:VP B o) (hg:Good B S k j) (hk:k≤50) (hj:j≤100000):Good B S' (k+1) (j+2)∧S'.st=Jm S.st o:=by
 rcases h with ⟨h1,h2⟩ | ⟨h1,h2⟩ | ⟨h1,h2,h3⟩
 · rcases ho with ⟨_,o1,o2,o3⟩ | ⟨o0,_⟩ | ⟨o0,_⟩
   · obtain ⟨g1,_,_,g4⟩:=h2.good hg hk (by omega) o3
     exact ⟨g1.mono (Nat.le_refl _) (by omega),by rw [g4,Jm,if_neg (by omega)]⟩
   · omega
   · omega
 · rcases ho with ⟨o0,_⟩ | ⟨_,o1,o2,o3⟩ | ⟨o0,_⟩
   · omega
   · obtain ⟨g1,_,_,g4⟩:=h2.good hg hk (by omega) (by omega)
     exact ⟨g1.mono (Nat.le_refl _) (by omega),by rw [g4,Jm,if_neg (by omega)]⟩
   · omega
 · have he:=hg.epoch
   obtain ⟨g1,_,_,g4⟩:=h3.good hg hk (by omega) hj
   have e:o.e.toNat=S.st.epoch+1:=by omega
   exact ⟨g1.mono (Nat.le_refl _) (by omega),by rw [g4,Jm,if_pos h1,e]⟩
structure RS where
 S:PS
 next:Nat
 sl:List PSlot
def RS.cur (R:RS):PSlot:=R.sl.getD (R.next % R.sl.length) PSlot.none_
def RS.cut (R:RS):List PSlot:=R.sl.set (R.next % R.sl.length) PSlot.none_
inductive Ran (B:Nat):RS→RS→Nat→Prop
 | stop {R:RS}:R.cur.is=false→Ran B R R 0
 | bad {R:RS}:R.cur.is=true→R.cur.o.k=3→R.cur.o.e≠R.S.st.epoch+1→Ran B R ⟨R.S,R.next,R.cut⟩ 1
 | step {R R':RS} {S':PS} {e:Nat}:R.cur.is=true→Does B R.S R.cur.o S'→Ran B ⟨S',R.next+1,R.cut⟩ R' e→Ran B R R' e
def KD (sl:List PSlot):Nat:=sl.countP (·.is)
theorem Ji {sl:List PSlot} {i:Nat} (hi:i<sl.length) (h:sl[i].is=true):KD (sl.set i PSlot.none_)+1=KD sl:=by
 unfold KD
 have:=List.countP_set (p:=(·.is)) (l:=sl) (i:=i) (a:=PSlot.none_) hi
 have hpos:1≤sl.countP (·.is):=List.countP_pos_iff.2 ⟨sl[i],List.getElem_mem _,h⟩
 rw [this,if_pos h]
 simp [PSlot.none_]
 omega
theorem VAK (sl:List PSlot):KD sl≤sl.length:=List.countP_le_length
def YD (m:Nat):List PSlot:=List.replicate m PSlot.none_
theorem Xo {m i:Nat}:(YD m).set i PSlot.none_=YD m:=by simp [YD]
theorem XAQ (S:PS) (n m:Nat):(⟨S,n,YD m⟩:RS).cur=PSlot.none_:=by
 unfold RS.cur YD
 simp only [List.getD_eq_getElem?_getD,List.getElem?_replicate]
 split <;> rfl
theorem VAa {B:Nat} {S:PS} {n m e:Nat} {R':RS} (h:Ran B ⟨S,n,YD m⟩ R' e):R'=⟨S,n,YD m⟩∧e=0:=by
 have hc:=XAQ S n m
 cases h with
 | stop _=>exact ⟨rfl,rfl⟩
 | bad h _ _=>rw [hc] at h;cases h
 | step h _ _=>rw [hc] at h;cases h
theorem YAT {B:Nat} {S:PS} {n m e:Nat} {q:PSlot} {R':RS} (hm:1≤m) (hq:q.is=true) (h:Ran B ⟨S,n,(YD m).set (n % m) q⟩ R' e) :
 (q.o.k=3∧q.o.e≠S.st.epoch+1∧e=1∧R'=⟨S,n,YD m⟩)∨∃ S',Does B S q.o S'∧e=0∧R'=⟨S',n+1,YD m⟩:=by
 have hl:((YD m).set (n % m) q).length=m:=by simp [YD]
 have hlt:n % m<m:=Nat.mod_lt _ hm
 have hc:(⟨S,n,(YD m).set (n % m) q⟩:RS).cur=q:=by
  unfold RS.cur
  simp only
  rw [hl,List.getD_eq_getElem?_getD,List.getElem?_set_self (by simpa [YD] using hlt)]
  rfl
 have hx:(⟨S,n,(YD m).set (n % m) q⟩:RS).cut=YD m:=by
  unfold RS.cut
  simp only
  rw [hl,List.set_set]
  exact Xo
 cases h with
 | stop h=>rw [hc,hq] at h;cases h
 | bad _ h2 h3=>rw [hc] at h2 h3;rw [hx];exact .inl ⟨h2,h3,rfl,rfl⟩
 | step _ h2 h3=>
   rw [hc] at h2
   rw [hx] at h3
   obtain ⟨e1,e2⟩:=VAa h3
   exact .inr ⟨_,h2,e2,e1⟩
theorem KAs {B:Nat} {S:PS} {n m e:Nat} {q p:PSlot} {R':RS} (hm:2≤m) (hq:q.is=true) (hp:p.is=true) (h:Ran B ⟨S,n,((YD m).set ((n+1) % m) p).set (n % m) q⟩ R' e) :
 (q.o.k=3∧q.o.e≠S.st.epoch+1)∨∃ S',Does B S q.o S'∧((p.o.k=3∧p.o.e≠S'.st.epoch+1∧e=1∧R'=⟨S',n+1,YD m⟩)∨∃ S2,Does B S' p.o S2∧e=0∧R'=⟨S2,n+1+1,YD m⟩):=by
 have hl:(((YD m).set ((n+1) % m) p).set (n % m) q).length=m:=by simp [YD]
 have hlt:n % m<m:=Nat.mod_lt _ (by omega)
 have hne:(n+1) % m≠n % m:=by
  intro he
  have h1:=Nat.div_add_mod (n+1) m
  have h2:=Nat.div_add_mod n m
  have h3:m*((n+1) / m)=m*(n / m)+1:=by omega
  have h4:m∣1:=(Nat.dvd_add_right (Nat.dvd_mul_right m (n / m))).1 (h3 ▸ Nat.dvd_mul_right m ((n+1) / m))
  have:=Nat.le_of_dvd (by omega) h4
  omega
 have hc:(⟨S,n,((YD m).set ((n+1) % m) p).set (n % m) q⟩:RS).cur=q:=by
  unfold RS.cur
  simp only
  rw [hl,List.getD_eq_getElem?_getD,List.getElem?_set_self (by simpa [YD] using hlt)]
  rfl
 have hx:(⟨S,n,((YD m).set ((n+1) % m) p).set (n % m) q⟩:RS).cut=(YD m).set ((n+1) % m) p:=by
  unfold RS.cut
  simp only
  rw [hl,List.set_set,List.set_comm _ _ hne,Xo]
 cases h with
 | stop h=>rw [hc,hq] at h;cases h
 | bad _ h2 h3=>rw [hc] at h2 h3;exact .inl ⟨h2,h3⟩
 | step _ h2 h3=>
   rw [hc] at h2
   rw [hx] at h3
   exact .inr ⟨_,h2,YAT (by omega) hp h3⟩
theorem XAg {B:Nat} {S:PS} {n m e:Nat} {p:PSlot} {R':RS} (hm:2≤m) (h:Ran B ⟨S,n,(YD m).set ((n+1) % m) p⟩ R' e):R'=⟨S,n,(YD m).set ((n+1) % m) p⟩∧e=0:=by
 have hl:((YD m).set ((n+1) % m) p).length=m:=by simp [YD]
 have hne:(n+1) % m≠n % m:=by
  intro he
  have h1:=Nat.div_add_mod (n+1) m
  have h2:=Nat.div_add_mod n m
  have h3:m*((n+1) / m)=m*(n / m)+1:=by omega
  have h4:m∣1:=(Nat.dvd_add_right (Nat.dvd_mul_right m (n / m))).1 (h3 ▸ Nat.dvd_mul_right m ((n+1) / m))
  have:=Nat.le_of_dvd (by omega) h4
  omega
 have hc:(⟨S,n,(YD m).set ((n+1) % m) p⟩:RS).cur=PSlot.none_:=by
  unfold RS.cur
  simp only
  rw [hl,List.getD_eq_getElem?_getD,List.getElem?_set_ne hne]
  simp only [YD,List.getElem?_replicate]
  split <;> rfl
 cases h with
 | stop _=>exact ⟨rfl,rfl⟩
 | bad h _ _=>rw [hc] at h;cases h
 | step h _ _=>rw [hc] at h;cases h
end
section
open Go.RowKit
structure PIdl where
 base:List (List UInt8)
 over:List (Option (List UInt8))
 ep:Nat
 seq:Nat
 done:Nat
def PIdl.new (B:Nat):PIdl:=⟨List.replicate B zeros64,List.replicate B none,0,0,0⟩
def PIdl.step (I:PIdl) (o:POp):PIdl:=
 if o.k=1 then { I with over:=I.over.set o.b.toNat (some o.d),seq:=I.seq+1 }
 else if o.k=2 then { I with over:=QS I.over o.b.toNat o.c.toNat (some zeros64),seq:=I.seq+1 }
 else { base:=XO I.base I.over,over:=List.replicate I.over.length none,ep:=I.ep+1,seq:=I.seq+1,done:=I.seq+1 }
def idl (B:Nat) (ops:Nat→POp):Nat→PIdl
 | 0=>PIdl.new B
 | n+1=>(idl B ops n).step (ops n)
def ZAO (B:Nat) (ops:Nat→POp) (len:Nat):Prop:=∀ j<len,VP B (ops j)∧((ops j).k=3→(ops j).e=((idl B ops j).ep:Nat)+1)
structure Stm (B:Nat) (ops:Nat→POp) (n:Nat) (S:PS):Prop where
 good:Good B S n (2*n)
 base:VK B S=(idl B ops n).base
 over:VL B S=(idl B ops n).over
 epoch:S.st.epoch=(idl B ops n).ep
 seq:S.st.seq=(idl B ops n).seq
 done:S.st.done=(idl B ops n).done
theorem YR {α:Type} (l:List α) (b n:Nat) (v:α):(QS l b n v).length=l.length:=by simp [QS]
theorem Good.overLen {B:Nat} {S:PS} {k j:Nat} (h:Good B S k j):(VL B S).length=B:=by simp [VL,h.ol]
theorem JAq (B:Nat) (ops:Nat→POp) (n:Nat):(idl B ops n).seq=n:=by
 induction n with
 | zero=>rfl
 | succ n ih=>
   simp only [idl,PIdl.step]
   split
   · simp [ih]
   · split <;> simp [ih]
theorem VAD (B:Nat) (ops:Nat→POp) (n:Nat):(idl B ops n).base.length=B∧(idl B ops n).over.length=B:=by
 induction n with
 | zero=>simp [idl,PIdl.new]
 | succ n ih=>
   simp only [idl,PIdl.step]
   split
   · simp [ih]
   · split
     · simp [ih,YR]
     · simp [ih,XO]
theorem Does.stm {B n:Nat} {S S':PS} {ops:Nat→POp} (h:Does B S (ops n) S') (ho:VP B (ops n)) (hs:Stm B ops n S) (hn:n≤45):Stm B ops (n+1) S'∧S'.st.view=S.st.view∧S'.st.mode=S.st.mode:=by
 have hg:=hs.good
 obtain ⟨hgd,_⟩:=h.good ho hg (by omega) (by omega)
 have hgd':Good B S' (n+1) (2*(n+1)):=hgd
 rcases h with ⟨h1,h2⟩ | ⟨h1,h2⟩ | ⟨h1,h2,h3⟩
 · rcases ho with ⟨_,o1,o2,o3⟩ | ⟨o0,_⟩ | ⟨o0,_⟩
   · obtain ⟨g1,g2,g3,g4⟩:=h2.good hg (by omega) (by omega) o3
     refine ⟨⟨hgd',?_,?_,?_,?_,?_⟩,by rw [g4],by rw [g4]⟩ <;> simp only [idl,PIdl.step,if_pos h1]
     · rw [g2,hs.base]
     · rw [g3,hs.over]
     · rw [g4];exact hs.epoch
     · rw [g4];simp only;rw [hs.seq]
     · rw [g4];exact hs.done
   · omega
   · omega
 · have h1':¬ (ops n).k=1:=by omega
   rcases ho with ⟨o0,_⟩ | ⟨_,o1,o2,o3⟩ | ⟨o0,_⟩
   · omega
   · obtain ⟨g1,g2,g3,g4⟩:=h2.good hg (by omega) (by omega) (by omega)
     refine ⟨⟨hgd',?_,?_,?_,?_,?_⟩,by rw [g4],by rw [g4]⟩ <;> simp only [idl,PIdl.step,if_neg h1',if_pos h1]
     · rw [g2,hs.base]
     · rw [g3,hs.over]
     · rw [g4];exact hs.epoch
     · rw [g4];simp only;rw [hs.seq]
     · rw [g4];exact hs.done
   · omega
 · have h1':¬ (ops n).k=1:=by omega
   have h2':¬ (ops n).k=2:=by omega
   have he:=hg.epoch
   obtain ⟨g1,g2,g3,g4⟩:=h3.good hg (by omega) (by omega) (by omega)
   refine ⟨⟨hgd',?_,?_,?_,?_,?_⟩,by rw [g4],by rw [g4]⟩ <;> simp only [idl,PIdl.step,if_neg h1',if_neg h2']
   · rw [g2,hs.base,hs.over]
   · rw [g3,(VAD B ops n).2]
   · rw [g4];simp only;have:=hs.epoch;omega
   · rw [g4];simp only;rw [hs.seq]
   · rw [g4];simp only;rw [hs.seq]
theorem mod_one {N s a b:Nat} (ha:s≤a∧a<s+N) (hb:s≤b∧b<s+N) (h:a % N=b % N):a=b:=by
 rcases Nat.le_total a b with hab | hab
 · have h1:=Nat.sub_mod_eq_zero_of_mod_eq h.symm
   rw [Nat.mod_eq_of_lt (by omega)] at h1
   omega
 · have h1:=Nat.sub_mod_eq_zero_of_mod_eq h
   rw [Nat.mod_eq_of_lt (by omega)] at h1
   omega
structure WinRel (ops:Nat→POp) (len next:Nat) (th:List Bool) (sl:List PSlot):Prop where
 pos:1≤sl.length
 thl:th.length=len+1
 thz:th.getD len false=false
 lo:∀ j<next,th.getD j false=true
 hi:∀ j,th.getD j false=true→j<next+sl.length
 sl:∀ i<sl.length,(sl.getD ((next+i+1) % sl.length) PSlot.none_).is=th.getD (next+i) false∧((sl.getD ((next+i+1) % sl.length) PSlot.none_).is=true→(sl.getD ((next+i+1) % sl.length) PSlot.none_).o=ops (next+i))
 nle:next≤len
theorem Ja {sl:List PSlot} {i k:Nat} {q:PSlot} (hi:i<sl.length):(sl.set i q).getD k PSlot.none_=if i=k then q else sl.getD k PSlot.none_:=by
 rw [List.getD_eq_getElem?_getD,List.getElem?_set]
 split
 · rename_i e
   subst e
   simp [hi]
 · rw [List.getD_eq_getElem?_getD]
theorem KP {l:List Bool} {i k:Nat} {b:Bool} (hi:i<l.length):(l.set i b).getD k false=if i=k then b else l.getD k false:=by
 rw [List.getD_eq_getElem?_getD,List.getElem?_set]
 split
 · rename_i e
   subst e
   simp [hi]
 · rw [List.getD_eq_getElem?_getD]
theorem WinRel.put {ops:Nat→POp} {len next:Nat} {th:List Bool} {sl:List PSlot} (h:WinRel ops len next th sl) {j:Nat} (hj:j<len) (h1:next≤j) (h2:j<next+sl.length) (v:Value) :
 WinRel ops len next (th.set j true) (sl.set ((j+1) % sl.length) ⟨v,ops j,true⟩):=by
 have hp:=h.pos
 have hl:=h.thl
 have hlt:(j+1) % sl.length<sl.length:=Nat.mod_lt _ hp
 refine ⟨by simpa using hp,by simpa using hl,?_,?_,?_,?_,h.nle⟩
 · rw [KP (by omega),if_neg (by omega)];exact h.thz
 · intro i hi
   rw [KP (by omega)]
   split
   · rfl
   · exact h.lo i hi
 · intro i hi
   rw [KP (by omega)] at hi
   rw [List.length_set]
   split at hi
   · omega
   · exact h.hi i hi
 · intro i hi
   rw [List.length_set] at hi ⊢
   rw [Ja hlt,KP (by omega)]
   by_cases e:j=next+i
   · subst e
     rw [if_pos rfl,if_pos rfl]
     exact ⟨rfl,fun _=>rfl⟩
   · have hne:¬ (j+1) % sl.length=(next+i+1) % sl.length:=fun hm=>e (by
      have:=mod_one (s:=next+1) ⟨by omega,by omega⟩ ⟨by omega,by omega⟩ hm
      omega)
     rw [if_neg hne,if_neg e]
     exact h.sl i hi
theorem JAb {B len:Nat} {ops:Nat→POp} {th:List Bool} (hops:ZAO B ops len) (hlen:len≤45) {R R':RS} {e:Nat} (hr:Ran B R R' e) :
 ∀ next,R.next=next+1→WinRel ops len next th R.sl→Stm B ops next R.S→e=0∧∃ n',R'.next=n'+1∧R'.sl.length=R.sl.length∧WinRel ops len n' th R'.sl∧th.getD n' false=false∧Stm B ops n' R'.S∧next≤n'∧(∀ j,next≤j→j<n'→th.getD j false=true)∧R'.S.st.view=R.S.st.view∧R'.S.st.mode=R.S.st.mode:=by
 induction hr with
 | @stop R h=>
   intro next hn hw hs
   refine ⟨rfl,next,hn,rfl,hw,?_,hs,Nat.le_refl _,fun j h1 h2=>by omega,rfl,rfl⟩
   have:=(hw.sl 0 hw.pos).1
   unfold RS.cur at h
   rw [hn] at h
   simp only [Nat.add_zero] at this
   rw [← this];exact h
 | @bad R h1 h2 h3=>
   intro next hn hw hs
   exfalso
   unfold RS.cur at h1 h2 h3
   rw [hn] at h1 h2 h3
   have h0:=hw.sl 0 hw.pos
   simp only [Nat.add_zero] at h0
   have ht:th.getD next false=true:=by rw [← h0.1];exact h1
   have hlt:next<len:=by
    rcases Nat.lt_or_ge next len with h | h
    · exact h
    · have:=hw.nle
      obtain rfl:next=len:=by omega
      rw [hw.thz] at ht;cases ht
   rw [h0.2 h1] at h2 h3
   rw [(hops next hlt).2 h2,hs.epoch] at h3
   exact h3 rfl
 | @step R R' S' e h1 h2 h3 ih=>
   intro next hn hw hs
   have h0:=hw.sl 0 hw.pos
   simp only [Nat.add_zero] at h0
   have hcur:R.cur=R.sl.getD ((next+1) % R.sl.length) PSlot.none_:=by unfold RS.cur;rw [hn]
   rw [hcur] at h1 h2
   have ht:th.getD next false=true:=by rw [← h0.1];exact h1
   have hlt:next<len:=by
    rcases Nat.lt_or_ge next len with h | h
    · exact h
    · have:=hw.nle
      obtain rfl:next=len:=by omega
      rw [hw.thz] at ht;cases ht
   rw [h0.2 h1] at h2
   obtain ⟨hs',hv,hm⟩:=h2.stm (hops next hlt).1 hs (by omega)
   have hp:=hw.pos
   have hml:(next+1) % R.sl.length<R.sl.length:=Nat.mod_lt _ hp
   have hcut:R.cut=R.sl.set ((next+1) % R.sl.length) PSlot.none_:=by unfold RS.cut;rw [hn]
   have hlc:R.cut.length=R.sl.length:=by rw [hcut,List.length_set]
   obtain ⟨i1,n',i2,i3,i4,i5,i6,i7,i8,i9,i10⟩:=ih (next+1) (by simp only;omega) (by
    simp only
    refine ⟨by omega,hw.thl,hw.thz,?_,?_,?_,by omega⟩
    · intro j hj
      rcases Nat.lt_or_ge j next with h | h
      · exact hw.lo j h
      · obtain rfl:j=next:=by omega
        exact ht
    · intro j hj
      have:=hw.hi j hj
      omega
    · intro i hi
      rw [hlc] at hi ⊢
      rw [hcut,Ja hml]
      by_cases e:i+1=R.sl.length
      · have hmod:(next+1+i+1) % R.sl.length=(next+1) % R.sl.length:=by
         rw [show next+1+i+1=next+1+R.sl.length by omega,Nat.add_mod_right]
        rw [hmod,if_pos rfl]
        refine ⟨?_,fun h=>by cases h⟩
        have hf:th.getD (next+1+i) false=false:=by
         by_cases hb:th.getD (next+1+i) false=true
         · have:=hw.hi _ hb;omega
         · simpa using hb
        rw [hf];rfl
      · have hne:¬ (next+1) % R.sl.length=(next+1+i+1) % R.sl.length:=fun hmm=>by
         have:=mod_one (s:=next+1) ⟨by omega,by omega⟩ ⟨by omega,by omega⟩ hmm
         omega
        rw [if_neg hne]
        have:=hw.sl (i+1) (by omega)
        rw [show next+(i+1)+1=next+1+i+1 by omega,show next+(i+1)=next+1+i by omega] at this
        exact this) (by simpa using hs')
   refine ⟨i1,n',i2,by rw [i3];exact hlc,i4,i5,i6,by omega,fun j hj1 hj2=>?_,i9.trans hv,i10.trans hm⟩
   rcases Nat.lt_or_ge next j with h | h
   · exact i8 j (by omega) hj2
   · obtain rfl:j=next:=by omega
     exact ht
end
end Go.Proofs.YtmoagodllhdemaaGreat
