/-
  A part of the proof: lemmas, and contracts of functions; their conditions stand in them.
-/
import Derived.Test.YtmoagodllhdemaaGreatE26
import Derived.Test.YtmoagodllhdemaaGreatE28
import Derived.Test.YtmoagodllhdemaaGreatE33
import Derived.Test.YtmoagodllhdemaaGreatE25
import Derived.Test.YtmoagodllhdemaaGreatE11
import Derived.Test.YtmoagodllhdemaaGreatE02
import Derived.Test.YtmoagodllhdemaaGreatE01
namespace Go.Proofs.YtmoagodllhdemaaGreat
set_option linter.unusedSimpArgs false
set_option linter.unusedVariables false
section
open Go.RowKit Go.Shelf
structure PSt where
 mode:Nat
 view:Nat
 epoch:Nat
 seq:Nat
 done:Nat
 mount:Nat
 gen:Nat
structure PS where
 D:PDisk
 us:List (Nat×Nat)
 lv:List Nat
 W:PW
 I:PImage
 st:PSt
 slot:Nat
 lie0:List Nat
 lie1:List Nat
def PSt.cs (s:PSt):List Value:=[.int .i64 s.mode,.int .i64 s.view,.int .i64 s.epoch,.int .i64 s.seq,.int .i64 s.done,.int .i64 s.mount,.int .i64 s.gen]
structure StoreIs (w:World) (base s d g t p m:Nat) (Fd Ft Fw Fm:List Nat) (L0 L1:Value) (B:Nat) (S:PS):Prop where
 blk:Blk w s 119 #[.pointer (some ⟨d,0,none⟩),.pointer (some ⟨g,0,none⟩),.pointer (some ⟨t,0,none⟩),.pointer (some ⟨m,0,none⟩),.pointer (some ⟨p,0,none⟩),
  .int .i64 S.st.mode,.int .i64 S.st.view,.int .i64 S.st.epoch,.int .i64 S.st.seq,.int .i64 S.st.done,.int .i64 S.st.mount,.int .i64 S.st.gen,.int .i64 0,.int .i64 0,.int .i64 0,.int .i64 S.slot,L0,L1]
 log:LogIs w base d g t p Fd Ft Fw B S.D S.us S.lv S.W
 img:ImageAt w base m Fm S.I
 blen:S.I.bl.length=B
 l0:w.ownsRow base 3 1 L0 (pgs B) (VO S.lie0)
 l1:w.ownsRow base 3 1 L1 (pgs B) (VO S.lie1)
 sbase:base≤s
 gbase:base≤g
 apm:Apart Fm (g :: (Fd++(Ft++Fw)))
 aps:s∉g :: (Fd++(Ft++(Fw++Fm)))
 apl:Apart (L0.ownBlock.toList++L1.ownBlock.toList) (s :: g :: (Fd++(Ft++(Fw++Fm))))
def JW (s g:Nat) (Fd Ft Fw Fm:List Nat) (L0 L1:Value):List Nat:=s :: g :: (Fd++(Ft++(Fw++(Fm++(L0.ownBlock.toList++L1.ownBlock.toList)))))
def StoreAt (w:World) (base s d:Nat) (F:List Nat) (B:Nat) (S:PS):Prop:=∃ g t p m Fd Ft Fw Fm L0 L1,StoreIs w base s d g t p m Fd Ft Fw Fm L0 L1 B S∧F=JW s g Fd Ft Fw Fm L0 L1
namespace StoreIs
variable {w w':World} {base s d g t p m:Nat} {Fd Ft Fw Fm l:List Nat} {L0 L1:Value} {B:Nat} {S:PS}
theorem keep (h:StoreIs w base s d g t p m Fd Ft Fw Fm L0 L1 B S) (hk:Keep l w w') (ha:Apart (JW s g Fd Ft Fw Fm L0 L1) l):StoreIs w' base s d g t p m Fd Ft Fw Fm L0 L1 B S:=by
 have ha':∀ x,x=s∨x=g∨x∈Fd∨x∈Ft∨x∈Fw∨x∈Fm∨x∈L0.ownBlock.toList∨x∈L1.ownBlock.toList→x∉l:=fun x hx=>ha x (by simpa only [JW,List.mem_cons,List.mem_append] using hx)
 exact ⟨h.blk.keep hk (ha' _ (by simp)),h.log.keep hk (ha' _ (by simp)) (fun x hx=>ha' x (by simp [hx])) (fun x hx=>ha' x (by simp [hx])) (fun x hx=>ha' x (by simp [hx])),h.img.keep hk (fun x hx=>ha' x (by simp [hx])),h.blen,
  QB h.l0 hk (fun x hx=>ha' x (by simp [hx])),QB h.l1 hk (fun x hx=>ha' x (by simp [hx])),h.sbase,h.gbase,h.apm,h.aps,h.apl⟩
theorem keep0 (h:StoreIs w base s d g t p m Fd Ft Fw Fm L0 L1 B S) (hk:Keep [] w w'):StoreIs w' base s d g t p m Fd Ft Fw Fm L0 L1 B S:=h.keep hk Apart.nil_right
theorem lt (h:StoreIs w base s d g t p m Fd Ft Fw Fm L0 L1 B S):∀ x∈JW s g Fd Ft Fw Fm L0 L1,x<w.heap.size:=by
 intro x hx
 simp only [JW,List.mem_cons,List.mem_append] at hx
 rcases hx with rfl | rfl | hx | hx | hx | hx | hx | hx
 · exact h.blk.lt
 · exact h.log.geom.lt
 · exact h.log.disk.lt x hx
 · exact h.log.tab.lt x hx
 · exact h.log.wri.lt x hx
 · exact h.img.lt x hx
 · exact (own_mem h.l0 hx).2
 · exact (own_mem h.l1 hx).2
theorem ge (h:StoreIs w base s d g t p m Fd Ft Fw Fm L0 L1 B S):∀ x∈JW s g Fd Ft Fw Fm L0 L1,base≤x:=by
 intro x hx
 simp only [JW,List.mem_cons,List.mem_append] at hx
 rcases hx with rfl | rfl | hx | hx | hx | hx | hx | hx
 · exact h.sbase
 · exact h.gbase
 · exact h.log.disk.ge x hx
 · exact h.log.tab.ge x hx
 · exact h.log.wri.ge x hx
 · exact h.img.ge x hx
 · exact (own_mem h.l0 hx).1
 · exact (own_mem h.l1 hx).1
theorem setLog (h:StoreIs w base s d g t p m Fd Ft Fw Fm L0 L1 B S) {Fd' Fw':List Nat} {D':PDisk} {us':List (Nat×Nat)} {lv':List Nat} {W':PW} (hl:LogIs w' base d g t p Fd' Ft Fw' B D' us' lv' W') (hk:Keep (Fd++(Ft++Fw)) w w') (hd:Grow w Fd Fd') (hw:Grow w Fw Fw') :
 StoreIs w' base s d g t p m Fd' Ft Fw' Fm L0 L1 B { S with D:=D',us:=us',lv:=lv',W:=W' }∧Grow w (JW s g Fd Ft Fw Fm L0 L1) (JW s g Fd' Ft Fw' Fm L0 L1):=by
 have hsn:∀ x,x∈Fd++(Ft++Fw)→x≠s:=fun x hx e=>h.aps (by subst e;simp only [List.mem_cons,List.mem_append] at hx ⊢;rcases hx with hx | hx | hx <;> simp [hx])
 have hmn:∀ x∈Fm,x∉Fd++(Ft++Fw):=fun x hx hm=>h.apm x hx (List.mem_cons_of_mem _ hm)
 have hln:∀ x∈L0.ownBlock.toList++L1.ownBlock.toList,x∉Fd++(Ft++Fw):=fun x hx hm=>h.apl x hx (by simp only [List.mem_cons,List.mem_append] at hm ⊢;rcases hm with hm | hm | hm <;> simp [hm])
 have hgr:∀ {A A':List Nat} {x:Nat},Grow w A A'→x<w.heap.size→x∉A→x∉A':=fun hg hx hn hm=>(hg _ hm).elim hn (by omega)
 have hslt:=h.blk.lt
 refine ⟨⟨h.blk.keep hk (fun hm=>hsn _ hm rfl),hl,h.img.keep hk hmn,h.blen,QB h.l0 hk (fun x hx=>hln x (List.mem_append_left _ (by simpa using hx))),QB h.l1 hk (fun x hx=>hln x (List.mem_append_right _ (by simpa using hx))),h.sbase,h.gbase,?_,?_,?_⟩,?_⟩
 · intro x hx hm
   have hxl:=h.img.lt x hx
   have h0:=h.apm x hx
   simp only [List.mem_cons,List.mem_append,not_or] at h0 hm
   rcases hm with hm | hm | hm | hm
   · exact h0.1 hm
   · exact hgr hd hxl h0.2.1 hm
   · exact h0.2.2.1 hm
   · exact hgr hw hxl h0.2.2.2 hm
 · intro hm
   have h0:=h.aps
   simp only [List.mem_cons,List.mem_append,not_or] at h0 hm
   rcases hm with hm | hm | hm | hm | hm
   · exact h0.1 hm
   · exact hgr hd hslt h0.2.1 hm
   · exact h0.2.2.1 hm
   · exact hgr hw hslt h0.2.2.2.1 hm
   · exact h0.2.2.2.2 hm
 · intro x hx hm
   have hxl:x<w.heap.size:=by
    rcases List.mem_append.1 hx with hx | hx
    · exact (own_mem h.l0 hx).2
    · exact (own_mem h.l1 hx).2
   have h0:=h.apl x hx
   simp only [List.mem_cons,List.mem_append,not_or] at h0 hm
   rcases hm with hm | hm | hm | hm | hm | hm
   · exact h0.1 hm
   · exact h0.2.1 hm
   · exact hgr hd hxl h0.2.2.1 hm
   · exact h0.2.2.2.1 hm
   · exact hgr hw hxl h0.2.2.2.2.1 hm
   · exact h0.2.2.2.2.2 hm
 · intro x hx
   simp only [JW,List.mem_cons,List.mem_append] at hx ⊢
   rcases hx with hx | hx | hx | hx | hx | hx | hx | hx
   · simp [hx]
   · simp [hx]
   · exact (hd x hx).imp (fun h=>by simp [h]) id
   · simp [hx]
   · exact (hw x hx).imp (fun h=>by simp [h]) id
   · simp [hx]
   · simp [hx]
   · simp [hx]
theorem setImg (h:StoreIs w base s d g t p m Fd Ft Fw Fm L0 L1 B S) {I':PImage} (hi:ImageAt w' base m Fm I') (hb:I'.bl.length=S.I.bl.length) (hk:Keep Fm w w') :
 StoreIs w' base s d g t p m Fd Ft Fw Fm L0 L1 B { S with I:=I' }:=by
 have ha:∀ x,x∈s :: g :: (Fd++(Ft++Fw))→x∉Fm:=fun x hx hm=>by
  rcases List.mem_cons.1 hx with rfl | hx
  · exact h.aps (by simp [hm])
  · exact h.apm x hm hx
 have hl:∀ x∈L0.ownBlock.toList++L1.ownBlock.toList,x∉Fm:=fun x hx hm=>h.apl x hx (by simp [hm])
 exact ⟨h.blk.keep hk (ha _ (by simp)),h.log.keep hk (ha _ (by simp)) (fun x hx=>ha x (by simp [hx])) (fun x hx=>ha x (by simp [hx])) (fun x hx=>ha x (by simp [hx])),hi,hb.trans h.blen,
  QB h.l0 hk (fun x hx=>hl x (List.mem_append_left _ (by simpa using hx))),QB h.l1 hk (fun x hx=>hl x (List.mem_append_right _ (by simpa using hx))),h.sbase,h.gbase,h.apm,h.aps,h.apl⟩
theorem setSt (h:StoreIs w base s d g t p m Fd Ft Fw Fm L0 L1 B S) (st:PSt) (hb:Blk w' s 119 #[.pointer (some ⟨d,0,none⟩),.pointer (some ⟨g,0,none⟩),.pointer (some ⟨t,0,none⟩),.pointer (some ⟨m,0,none⟩),.pointer (some ⟨p,0,none⟩),
 .int .i64 st.mode,.int .i64 st.view,.int .i64 st.epoch,.int .i64 st.seq,.int .i64 st.done,.int .i64 st.mount,.int .i64 st.gen,.int .i64 0,.int .i64 0,.int .i64 0,.int .i64 S.slot,L0,L1]) (hk:Keep [s] w w') :
 StoreIs w' base s d g t p m Fd Ft Fw Fm L0 L1 B { S with st:=st }:=by
 have ha:∀ x,x∈g :: (Fd++(Ft++(Fw++Fm)))→x∉[s]:=fun x hx hm=>by
  simp at hm;subst hm;exact h.aps hx
 have hl:∀ x∈L0.ownBlock.toList++L1.ownBlock.toList,x∉[s]:=fun x hx hm=>h.apl x hx (by simp at hm;simp [hm])
 exact ⟨hb,h.log.keep hk (ha _ (by simp)) (fun x hx=>ha x (by simp [hx])) (fun x hx=>ha x (by simp [hx])) (fun x hx=>ha x (by simp [hx])),h.img.keep hk (fun x hx=>ha x (by simp [hx])),h.blen,
  QB h.l0 hk (fun x hx=>hl x (List.mem_append_left _ (by simpa using hx))),QB h.l1 hk (fun x hx=>hl x (List.mem_append_right _ (by simpa using hx))),h.sbase,h.gbase,h.apm,h.aps,h.apl⟩
end StoreIs
namespace StoreAt
variable {w w':World} {base s d:Nat} {F l:List Nat} {B:Nat} {S:PS}
theorem keep (h:StoreAt w base s d F B S) (hk:Keep l w w') (ha:Apart F l):StoreAt w' base s d F B S:=by
 obtain ⟨g,t,p,m,Fd,Ft,Fw,Fm,L0,L1,h,rfl⟩:=h
 exact ⟨g,t,p,m,Fd,Ft,Fw,Fm,L0,L1,h.keep hk ha,rfl⟩
theorem keep0 (h:StoreAt w base s d F B S) (hk:Keep [] w w'):StoreAt w' base s d F B S:=h.keep hk Apart.nil_right
theorem lt (h:StoreAt w base s d F B S):∀ x∈F,x<w.heap.size:=by obtain ⟨g,t,p,m,Fd,Ft,Fw,Fm,L0,L1,h,rfl⟩:=h;exact h.lt
theorem ge (h:StoreAt w base s d F B S):∀ x∈F,base≤x:=by obtain ⟨g,t,p,m,Fd,Ft,Fw,Fm,L0,L1,h,rfl⟩:=h;exact h.ge
end StoreAt
theorem YE {w:World} {g:Nat} {t:TypeId} {x0 x1 x2 x3 x4 x5 x6 x7 x8 x9 x10 x11 x12 x13 x14 x15 x16 x17:Value} (h:Blk w g t #[x0,x1,x2,x3,x4,x5,x6,x7,x8,x9,x10,x11,x12,x13,x14,x15,x16,x17]) :
 w.cell? ⟨g,0,none⟩=some x0∧w.cell? ⟨g,1,none⟩=some x1∧w.cell? ⟨g,2,none⟩=some x2∧w.cell? ⟨g,3,none⟩=some x3∧w.cell? ⟨g,4,none⟩=some x4∧w.cell? ⟨g,5,none⟩=some x5∧w.cell? ⟨g,6,none⟩=some x6∧w.cell? ⟨g,7,none⟩=some x7∧w.cell? ⟨g,8,none⟩=some x8∧w.cell? ⟨g,9,none⟩=some x9 ∧
 w.cell? ⟨g,10,none⟩=some x10∧w.cell? ⟨g,11,none⟩=some x11∧w.cell? ⟨g,12,none⟩=some x12∧w.cell? ⟨g,13,none⟩=some x13∧w.cell? ⟨g,14,none⟩=some x14∧w.cell? ⟨g,15,none⟩=some x15∧w.cell? ⟨g,16,none⟩=some x16∧w.cell? ⟨g,17,none⟩=some x17:=
 ⟨by simpa using h.cell 0,by simpa using h.cell 1,by simpa using h.cell 2,by simpa using h.cell 3,by simpa using h.cell 4,by simpa using h.cell 5,by simpa using h.cell 6,by simpa using h.cell 7,by simpa using h.cell 8,by simpa using h.cell 9,
   by simpa using h.cell 10,by simpa using h.cell 11,by simpa using h.cell 12,by simpa using h.cell 13,by simpa using h.cell 14,by simpa using h.cell 15,by simpa using h.cell 16,by simpa using h.cell 17⟩
end
section
open Go.RowKit
def Vf (B:Nat) (lv:List Nat) (a:Nat) (gone:List Int):List Nat:=
 gone.foldl (fun lv x=>if 0<x then JS lv ((x.toNat-(6+4*pgs B)) / 24) (-1) else lv) (if a=0 then lv else JS lv ((a-(6+4*pgs B)) / 24) 1)
def Wrote (B:Nat) (S:PS) (b:Nat) (bs:List UInt8) (S':PS):Prop:=
 ∃ D' us' lv1 W' a,Added B S.D S.us S.lv S.W ⟨1,b,0,0⟩ bs D' us' lv1 W' a ∧
   S'={ S with D:=D',us:=us',lv:=Vf B lv1 a [QH (S.I.ol.getD b 0) a],W:=W',I:={ S.I with ol:=S.I.ol.set b a,od:=JJ S.I.ol S.I.od b a },st:={ S.st with seq:=S.st.seq+1 } }
def Trimmed (B:Nat) (S:PS) (b n:Nat) (S':PS):Prop:=
 ∃ D' us' lv1 W' a,Added B S.D S.us S.lv S.W ⟨2,b,n,0⟩ [] D' us' lv1 W' a ∧
   S'={ S with D:=D',us:=us',lv:=Vf B lv1 0 (YH b n S.I.ol S.I.od).1,W:=W',I:={ S.I with ol:=(YH b n S.I.ol S.I.od).2.1,od:=(YH b n S.I.ol S.I.od).2.2 },st:={ S.st with seq:=S.st.seq+1 } }
def Marked (B:Nat) (S:PS) (e:Nat) (S':PS):Prop:=
 ∃ D1 us1 lv1 W1 a D2 us2 W2 bd od,Added B S.D S.us S.lv S.W ⟨3,0,0,e⟩ [] D1 us1 lv1 W1 a∧Emitted B D1 us1 W1 D2 us2 W2 ∧
   S'={ S with D:=D2.flush,us:=us2,lv:=Vf B lv1 0 (Jo S.I.bl S.I.ol S.I.ol.length),W:=W2,I:=⟨Xe S.I.bl S.I.ol S.I.ol.length,bd,Xi S.I.ol S.I.ol.length,od⟩,st:={ S.st with epoch:=e,seq:=S.st.seq+1,done:=S.st.seq+1 } }
def RefOk (B:Nat) (S:PS) (a:Int):Prop:=a=0∨(0<a∧Lies B S.us S.W a.toNat)
def zeros64:List UInt8:=List.replicate 64 0
def XI (B:Nat) (S:PS) (a:Int):List UInt8:=if a=0 then zeros64 else KK B S.D S.W a.toNat
structure Good (B:Nat) (S:PS) (k j:Nat):Prop where
 cap:Cap S.D S.us S.W k j
 now:S.D.now.length=S.D.n*64
 many:S.D.n=198+4*pgs B
 flt:∀ x∈S.D.faults,x=false
 flen:S.D.faults.length=S.D.n
 b1:1≤B
 b64:B≤64
 bl:S.I.bl.length=B
 ol:S.I.ol.length=B
 brefs:∀ x∈S.I.bl,RefOk B S x
 orefs:∀ x∈S.I.ol,x = -1∨RefOk B S x
 seq:S.st.seq≤j
 epoch:S.st.epoch≤j
 done:S.st.done≤S.st.seq
def QL (B:Nat) (S:PS):List (List UInt8):=S.I.bl.map (XI B S)
def QT (B:Nat) (S:PS):List (Option (List UInt8)):=S.I.ol.map (fun a=>if a = -1 then none else some (XI B S a))
theorem XZ {B:Nat} {S S':PS} (h:∀ x,Lies B S.us S.W x→Lies B S'.us S'.W x∧KK B S'.D S'.W x=KK B S.D S.W x) {a:Int} (ha:RefOk B S a):RefOk B S' a∧XI B S' a=XI B S a:=by
 rcases ha with rfl | ⟨h0,hl⟩
 · exact ⟨.inl rfl,rfl⟩
 · obtain ⟨h1,h2⟩:=h _ hl
   exact ⟨.inr ⟨h0,h1⟩,by unfold XI;rw [if_neg (by omega),if_neg (by omega)];exact h2⟩
theorem QX {B:Nat} {S S':PS} (h:∀ x,Lies B S.us S.W x→Lies B S'.us S'.W x∧KK B S'.D S'.W x=KK B S.D S.W x) {l:List Int} (hl:∀ a∈l,RefOk B S a):(∀ a∈l,RefOk B S' a)∧l.map (XI B S')=l.map (XI B S):=
 ⟨fun a ha=>(XZ h (hl a ha)).1,List.map_congr_left fun a ha=>(XZ h (hl a ha)).2⟩
theorem XX {B:Nat} {S S':PS} (h:∀ x,Lies B S.us S.W x→Lies B S'.us S'.W x∧KK B S'.D S'.W x=KK B S.D S.W x) {l:List Int} (hl:∀ a∈l,a = -1∨RefOk B S a) :
 (∀ a∈l,a = -1∨RefOk B S' a)∧l.map (fun a=>if a = -1 then none else some (XI B S' a))=l.map (fun a=>if a = -1 then none else some (XI B S a)):=
 ⟨fun a ha=>(hl a ha).imp id (fun h'=>(XZ h h').1),List.map_congr_left fun a ha=>by
   rcases hl a ha with rfl | h'
   · rfl
   · rw [(XZ h h').2]⟩
theorem RefOk.range {B:Nat} {S:PS} {a:Int} (h:RefOk B S a) (h64:B≤64):0≤a∧a<4096:=by
 rcases h with rfl | ⟨h0,hl⟩
 · omega
 · have:=hl.hi
   have:pgs B≤5:=by unfold pgs;omega
   omega
theorem Wrote.good {B:Nat} {S S':PS} {b k j:Nat} {bs:List UInt8} (h:Wrote B S b bs S') (hg:Good B S k j) (hk:k≤50) (hb:b<B) (hl:bs.length=64) :
 Good B S' (k+1) (j+1)∧QL B S'=QL B S∧QT B S'=(QT B S).set b (some bs)∧S'.st={ S.st with seq:=S.st.seq+1 }:=by
 obtain ⟨D',us',lv1,W',a,hA,rfl⟩:=h
 have hmay:PItem.May ⟨1,b,0,0⟩ := .inl ⟨.inl rfl,by have:=hg.b64;simp only;omega,rfl,rfl⟩
 have hc:=hg.cap.added hk hmay (fun _=>hl) hA
 obtain ⟨r1,r2,r3,r4,r5⟩:=hA.reads hg.cap hk hg.now hg.many
 obtain ⟨ra,rb⟩:=r5 rfl
 have hK:∀ x,Lies B S.us S.W x→Lies B us' W' x∧KK B D' W' x=KK B S.D S.W x:=fun x hx=>⟨(r4 x hx).1,(r4 x hx).2.1⟩
 have hKb:=QX (B:=B) (S:=S) (S':={ S with D:=D',us:=us',W:=W' }) hK hg.brefs
 have hKo:=XX (B:=B) (S:=S) (S':={ S with D:=D',us:=us',W:=W' }) hK hg.orefs
 have h0:a≠0:=by have:=ra.lo;omega
 refine ⟨⟨hc,r1,r2.trans hg.many,by simp only;rw [r3];exact hg.flt,by simp only;rw [r3,r2];exact hg.flen,hg.b1,hg.b64,hg.bl,by simpa using hg.ol,hKb.1,?_,by have:=hg.seq;simp only;omega,by have:=hg.epoch;simp only;omega,by have:=hg.done;simp only;omega⟩,hKb.2,?_,rfl⟩
 · intro x hx
   rcases List.mem_or_eq_of_mem_set hx with hx | rfl
   · exact hKo.1 x hx
   · exact .inr (.inr ⟨by omega,by simpa using ra⟩)
 · unfold QT
   simp only
   rw [List.map_set]
   congr 1
   · exact hKo.2
   · rw [if_neg (by omega)]
     unfold XI
     rw [if_neg (by omega)]
     simp only [Int.toNat_natCast]
     rw [rb]
theorem Jl (b n:Nat) (l:List Int) (ds:List Bool) (x:Nat):(YH b n l ds).2.1[x]? = if b≤x∧x<b+n∧x<l.length then some 0 else l[x]? := by
 induction n with
 | zero=>rw [if_neg (by omega)];rfl
 | succ n ih=>
   rw [QP]
   have hst:((ZM b (YH b n l ds) n).2.1)=(YH b n l ds).2.1.set (b+n) 0:=rfl
   rw [hst,List.getElem?_set,ih]
   have hlen:=(ZJ b n l ds).1
   rw [hlen]
   split
   · rename_i e
     subst e
     by_cases hx:b+n<l.length
     · rw [if_pos hx,if_pos (by omega)]
     · rw [if_neg hx,if_neg (by omega),List.getElem?_eq_none (by omega)]
   · rename_i e
     by_cases hx:b≤x∧x<b+n∧x<l.length
     · rw [if_pos hx,if_pos (by omega)]
     · rw [if_neg hx,if_neg (by omega)]
def YQ {α:Type} (l:List α) (b n:Nat) (v:α):List α:=(List.range l.length).map fun x=>if b≤x∧x<b+n then v else l.getD x v
theorem YS {α:Type} (l:List α) (b n:Nat) (v:α) (x:Nat):(YQ l b n v)[x]? = if b≤x∧x<b+n∧x<l.length then some v else l[x]? := by
 unfold YQ
 rw [List.getElem?_map]
 by_cases hx:x<l.length
 · rw [List.getElem?_range hx]
   simp only [Option.map_some]
   split
   · rw [if_pos (by omega)]
   · rw [if_neg (by omega),List.getD_eq_getElem?_getD,List.getElem?_eq_getElem hx];rfl
 · rw [List.getElem?_eq_none (by simpa using hx),if_neg (by omega),List.getElem?_eq_none (by omega)];rfl
theorem Trimmed.good {B:Nat} {S S':PS} {b n k j:Nat} (h:Trimmed B S b n S') (hg:Good B S k j) (hk:k≤50) (hn:1≤n) (hb:b+n≤B) :
 Good B S' (k+1) (j+1)∧QL B S'=QL B S∧QT B S'=YQ (QT B S) b n (some zeros64)∧S'.st={ S.st with seq:=S.st.seq+1 }:=by
 obtain ⟨D',us',lv1,W',a,hA,rfl⟩:=h
 have hmay:PItem.May ⟨2,b,n,0⟩ := .inr (.inl ⟨.inl rfl,by have:=hg.b64;simp only;omega,hn,by have:=hg.b64;simp only;omega,rfl⟩)
 have hc:=hg.cap.added hk hmay (fun h=>by cases h) hA
 obtain ⟨r1,r2,r3,r4,r5⟩:=hA.reads hg.cap hk hg.now hg.many
 have hK:∀ x,Lies B S.us S.W x→Lies B us' W' x∧KK B D' W' x=KK B S.D S.W x:=fun x hx=>⟨(r4 x hx).1,(r4 x hx).2.1⟩
 have hKb:=QX (B:=B) (S:=S) (S':={ S with D:=D',us:=us',W:=W' }) hK hg.brefs
 have hKo:=XX (B:=B) (S:=S) (S':={ S with D:=D',us:=us',W:=W' }) hK hg.orefs
 have hol:=hg.ol
 have hlen:=(ZJ b n S.I.ol S.I.od).1
 refine ⟨⟨hc,r1,r2.trans hg.many,by simp only;rw [r3];exact hg.flt,by simp only;rw [r3,r2];exact hg.flen,hg.b1,hg.b64,hg.bl,by simp only;rw [hlen];exact hol,hKb.1,?_,by have:=hg.seq;simp only;omega,by have:=hg.epoch;simp only;omega,by have:=hg.done;simp only;omega⟩,hKb.2,?_,rfl⟩
 · intro x hx
   obtain ⟨i,hi⟩:=List.getElem?_of_mem hx
   rw [Jl] at hi
   split at hi
   · cases hi;exact .inr (.inl rfl)
   · exact hKo.1 x (List.mem_of_getElem? hi)
 · apply List.ext_getElem?
   intro x
   rw [YS]
   unfold QT
   simp only [List.getElem?_map,List.length_map]
   rw [Jl]
   split
   · rfl
   · rw [← List.getElem?_map,← List.getElem?_map]
     exact congrArg (·[x]?) hKo.2
end
section
open Go.RowKit
def XN (base:List (List UInt8)) (over:List (Option (List UInt8))):List (List UInt8):=List.zipWith (fun b o=>o.getD b) base over
theorem Qp {bl ol:List Int} (h:bl.length=ol.length):Xe bl ol ol.length=List.zipWith (fun b o=>if o = -1 then b else o) bl ol:=by
 unfold Xe
 rw [List.take_of_length_le (by simp;omega),List.drop_of_length_le (by omega),List.append_nil]
theorem Zp (ol:List Int):Xi ol ol.length=List.replicate ol.length (-1):=by
 unfold Xi
 rw [List.drop_of_length_le (by omega),List.append_nil]
theorem Marked.good {B:Nat} {S S':PS} {e k j:Nat} (h:Marked B S e S') (hg:Good B S k j) (hk:k≤50) (he:1≤e∧e≤j+1) (hj:j≤100000) :
 Good B S' (k+1) (j+2)∧QL B S'=XN (QL B S) (QT B S)∧QT B S'=List.replicate B none∧S'.st={ S.st with epoch:=e,seq:=S.st.seq+1,done:=S.st.seq+1 }:=by
 obtain ⟨D1,us1,lv1,W1,a,D2,us2,W2,bd,od,hA,hE,rfl⟩:=h
 have hmay:PItem.May ⟨3,0,0,e⟩ := .inr (.inr (.inl ⟨rfl,rfl,rfl,he.1,by simp only;omega⟩))
 have hc:=hg.cap.added hk hmay (fun h=>by cases h) hA
 obtain ⟨r1,r2,r3,r4,r5⟩:=hA.reads hg.cap hk hg.now hg.many
 have hc2:=hc.mark hE 1 (by omega) D2.flush (by show D2.acts+1≤_;omega)
 obtain ⟨q1,q2⟩:=hE.reads hc.ok r1 (r2.trans hg.many) hc.seg hc.off
 obtain ⟨_,_,_,_,_,_,_,_,_,_,_,f1,_,_,f4⟩:=hE.facts hc.ok
 have hK:∀ x,Lies B S.us S.W x→Lies B us2 W2 x∧KK B D2.flush W2 x=KK B S.D S.W x:=by
  intro x hx
  obtain ⟨a1,a2,_⟩:=r4 x hx
  obtain ⟨b1,b2⟩:=q2 x a1
  exact ⟨b1,b2.trans a2⟩
 have hKb:=QX (B:=B) (S:=S) (S':={ S with D:=D2.flush,us:=us2,W:=W2 }) hK hg.brefs
 have hKo:=XX (B:=B) (S:=S) (S':={ S with D:=D2.flush,us:=us2,W:=W2 }) hK hg.orefs
 have hbl:=hg.bl
 have hol:=hg.ol
 have hlen:S.I.bl.length=S.I.ol.length:=by omega
 refine ⟨⟨hc2,q1,(f1.trans r2).trans hg.many,?_,?_,hg.b1,hg.b64,?_,?_,?_,?_,by have:=hg.seq;simp only;omega,by simp only;omega,by simp only;omega⟩,?_,?_,rfl⟩
 · show ∀ x∈D2.faults,x=false
   rw [f4,r3];exact hg.flt
 · show D2.faults.length=D2.n
   rw [f4,r3,f1,r2];exact hg.flen
 · simp only;rw [Qp hlen];simp;omega
 · simp only;rw [Zp];simp;omega
 · intro x hx
   simp only at hx
   rw [Qp hlen] at hx
   obtain ⟨i,hi⟩:=List.getElem?_of_mem hx
   rw [List.getElem?_zipWith] at hi
   split at hi
   · rename_i u v hu hv
     simp only [Option.some.injEq] at hi
     subst hi
     split
     · exact hKb.1 u (List.mem_of_getElem? hu)
     · exact (hKo.1 v (List.mem_of_getElem? hv)).resolve_left (by assumption)
   · cases hi
 · intro x hx
   simp only at hx
   rw [Zp] at hx
   exact .inl (List.eq_of_mem_replicate hx)
 · have e1:QL B S=S.I.bl.map (XI B { S with D:=D2.flush,us:=us2,W:=W2 }):=hKb.2.symm
   have e2:QT B S=S.I.ol.map (fun a=>if a = -1 then none else some (XI B { S with D:=D2.flush,us:=us2,W:=W2 } a)):=hKo.2.symm
   rw [e1,e2]
   unfold QL XN
   simp only
   rw [Qp hlen]
   apply List.ext_getElem?
   intro i
   simp only [List.getElem?_map,List.getElem?_zipWith]
   rcases S.I.bl[i]? with _ | u <;> rcases S.I.ol[i]? with _ | v
   · rfl
   · rfl
   · rfl
   · simp only [Option.map_some,Option.some.injEq]
     split <;> rfl
 · unfold QT
   simp only
   rw [Zp,List.map_replicate,if_pos rfl,hol]
end
section
open Go.RowKit
def YW (B:Nat) (o:POp):Prop:=
 (o.k=1∧0≤o.b∧o.b<B∧o.d.length=64)∨(o.k=2∧0≤o.b∧1≤o.c∧o.b+o.c≤B)∨(o.k=3∧1≤o.e∧o.e≤2147483647)
def Does (B:Nat) (S:PS) (o:POp) (S':PS):Prop:=
 (o.k=1∧Wrote B S o.b.toNat o.d S')∨(o.k=2∧Trimmed B S o.b.toNat o.c.toNat S')∨(o.k=3∧o.e=S.st.epoch+1∧Marked B S o.e.toNat S')
theorem Good.mono {B:Nat} {S:PS} {k k' j j':Nat} (h:Good B S k j) (hk:k≤k') (hj:j≤j'):Good B S k' j':=
 ⟨h.cap.mono hk hj,h.now,h.many,h.flt,h.flen,h.b1,h.b64,h.bl,h.ol,h.brefs,h.orefs,Nat.le_trans h.seq hj,Nat.le_trans h.epoch hj,h.done⟩
def Zv (st:PSt) (o:POp):PSt:=if o.k=3 then { st with epoch:=st.epoch+1,seq:=st.seq+1,done:=st.seq+1 } else { st with seq:=st.seq+1 }
theorem Does.good {B:Nat} {S S':PS} {o:POp} {k j:Nat} (h:Does B S o S') (ho:YW B o) (hg:Good B S k j) (hk:k≤50) (hj:j≤100000):Good B S' (k+1) (j+2)∧S'.st=Zv S.st o:=by
 rcases h with ⟨h1,h2⟩ | ⟨h1,h2⟩ | ⟨h1,h2,h3⟩
 · rcases ho with ⟨_,o1,o2,o3⟩ | ⟨o0,_⟩ | ⟨o0,_⟩
   · obtain ⟨g1,_,_,g4⟩:=h2.good hg hk (by omega) o3
     exact ⟨g1.mono (Nat.le_refl _) (by omega),by rw [g4,Zv,if_neg (by omega)]⟩
   · omega
   · omega
 · rcases ho with ⟨o0,_⟩ | ⟨_,o1,o2,o3⟩ | ⟨o0,_⟩
   · omega
   · obtain ⟨g1,_,_,g4⟩:=h2.good hg hk (by omega) (by omega)
     exact ⟨g1.mono (Nat.le_refl _) (by omega),by rw [g4,Zv,if_neg (by omega)]⟩
   · omega
 · have he:=hg.epoch
   obtain ⟨g1,_,_,g4⟩:=h3.good hg hk (by omega) hj
   have e:o.e.toNat=S.st.epoch+1:=by omega
   exact ⟨g1.mono (Nat.le_refl _) (by omega),by rw [g4,Zv,if_pos h1,e]⟩
structure RS where
 S:PS
 next:Nat
 sl:List PSlot
def RS.cur (R:RS):PSlot:=R.sl.getD (R.next % R.sl.length) PSlot.none_
def RS.cut (R:RS):List PSlot:=R.sl.set (R.next % R.sl.length) PSlot.none_
inductive Ran (B:Nat):RS→RS→Nat→Prop
 | stop {R:RS}:R.cur.is=false→Ran B R R 0
 | bad {R:RS}:R.cur.is=true→R.cur.o.k=3→R.cur.o.e≠R.S.st.epoch+1→Ran B R ⟨R.S,R.next,R.cut⟩ 1
 | step {R R':RS} {S':PS} {e:Nat}:R.cur.is=true→Does B R.S R.cur.o S'→Ran B ⟨S',R.next+1,R.cut⟩ R' e→Ran B R R' e
def VE (sl:List PSlot):Nat:=sl.countP (·.is)
theorem Kx {sl:List PSlot} {i:Nat} (hi:i<sl.length) (h:sl[i].is=true):VE (sl.set i PSlot.none_)+1=VE sl:=by
 unfold VE
 have:=List.countP_set (p:=(·.is)) (l:=sl) (i:=i) (a:=PSlot.none_) hi
 have hpos:1≤sl.countP (·.is):=List.countP_pos_iff.2 ⟨sl[i],List.getElem_mem _,h⟩
 rw [this,if_pos h]
 simp [PSlot.none_]
 omega
theorem YAI (sl:List PSlot):VE sl≤sl.length:=List.countP_le_length
def ZF (m:Nat):List PSlot:=List.replicate m PSlot.none_
theorem JAH {m i:Nat}:(ZF m).set i PSlot.none_=ZF m:=by simp [ZF]
theorem VAQ (S:PS) (n m:Nat):(⟨S,n,ZF m⟩:RS).cur=PSlot.none_:=by
 unfold RS.cur ZF
 simp only [List.getD_eq_getElem?_getD,List.getElem?_replicate]
 split <;> rfl
theorem ZAR {B:Nat} {S:PS} {n m e:Nat} {R':RS} (h:Ran B ⟨S,n,ZF m⟩ R' e):R'=⟨S,n,ZF m⟩∧e=0:=by
 have hc:=VAQ S n m
 cases h with
 | stop _=>exact ⟨rfl,rfl⟩
 | bad h _ _=>rw [hc] at h;cases h
 | step h _ _=>rw [hc] at h;cases h
theorem YAT {B:Nat} {S:PS} {n m e:Nat} {q:PSlot} {R':RS} (hm:1≤m) (hq:q.is=true) (h:Ran B ⟨S,n,(ZF m).set (n % m) q⟩ R' e) :
 (q.o.k=3∧q.o.e≠S.st.epoch+1∧e=1∧R'=⟨S,n,ZF m⟩)∨∃ S',Does B S q.o S'∧e=0∧R'=⟨S',n+1,ZF m⟩:=by
 have hl:((ZF m).set (n % m) q).length=m:=by simp [ZF]
 have hlt:n % m<m:=Nat.mod_lt _ hm
 have hc:(⟨S,n,(ZF m).set (n % m) q⟩:RS).cur=q:=by
  unfold RS.cur
  simp only
  rw [hl,List.getD_eq_getElem?_getD,List.getElem?_set_self (by simpa [ZF] using hlt)]
  rfl
 have hx:(⟨S,n,(ZF m).set (n % m) q⟩:RS).cut=ZF m:=by
  unfold RS.cut
  simp only
  rw [hl,List.set_set]
  exact JAH
 cases h with
 | stop h=>rw [hc,hq] at h;cases h
 | bad _ h2 h3=>rw [hc] at h2 h3;rw [hx];exact .inl ⟨h2,h3,rfl,rfl⟩
 | step _ h2 h3=>
   rw [hc] at h2
   rw [hx] at h3
   obtain ⟨e1,e2⟩:=ZAR h3
   exact .inr ⟨_,h2,e2,e1⟩
end
section
open Go.RowKit
structure PIdl where
 base:List (List UInt8)
 over:List (Option (List UInt8))
 ep:Nat
 seq:Nat
 done:Nat
def PIdl.new (B:Nat):PIdl:=⟨List.replicate B zeros64,List.replicate B none,0,0,0⟩
def PIdl.step (I:PIdl) (o:POp):PIdl:=
 if o.k=1 then { I with over:=I.over.set o.b.toNat (some o.d),seq:=I.seq+1 }
 else if o.k=2 then { I with over:=YQ I.over o.b.toNat o.c.toNat (some zeros64),seq:=I.seq+1 }
 else { base:=XN I.base I.over,over:=List.replicate I.over.length none,ep:=I.ep+1,seq:=I.seq+1,done:=I.seq+1 }
def idl (B:Nat) (ops:Nat→POp):Nat→PIdl
 | 0=>PIdl.new B
 | n+1=>(idl B ops n).step (ops n)
def KAl (B:Nat) (ops:Nat→POp) (len:Nat):Prop:=∀ j<len,YW B (ops j)∧((ops j).k=3→(ops j).e=((idl B ops j).ep:Nat)+1)
structure Stm (B:Nat) (ops:Nat→POp) (n:Nat) (S:PS):Prop where
 good:Good B S n (2*n)
 base:QL B S=(idl B ops n).base
 over:QT B S=(idl B ops n).over
 epoch:S.st.epoch=(idl B ops n).ep
 seq:S.st.seq=(idl B ops n).seq
 done:S.st.done=(idl B ops n).done
theorem VQ {α:Type} (l:List α) (b n:Nat) (v:α):(YQ l b n v).length=l.length:=by simp [YQ]
theorem Zh (B:Nat) (ops:Nat→POp) (n:Nat):(idl B ops n).seq=n:=by
 induction n with
 | zero=>rfl
 | succ n ih=>
   simp only [idl,PIdl.step]
   split
   · simp [ih]
   · split <;> simp [ih]
theorem Vn (B:Nat) (ops:Nat→POp) (n:Nat):(idl B ops n).base.length=B∧(idl B ops n).over.length=B:=by
 induction n with
 | zero=>simp [idl,PIdl.new]
 | succ n ih=>
   simp only [idl,PIdl.step]
   split
   · simp [ih]
   · split
     · simp [ih,VQ]
     · simp [ih,XN]
theorem Does.stm {B n:Nat} {S S':PS} {ops:Nat→POp} (h:Does B S (ops n) S') (ho:YW B (ops n)) (hs:Stm B ops n S) (hn:n≤45):Stm B ops (n+1) S'∧S'.st.view=S.st.view∧S'.st.mode=S.st.mode:=by
 have hg:=hs.good
 obtain ⟨hgd,_⟩:=h.good ho hg (by omega) (by omega)
 have hgd':Good B S' (n+1) (2*(n+1)):=hgd
 rcases h with ⟨h1,h2⟩ | ⟨h1,h2⟩ | ⟨h1,h2,h3⟩
 · rcases ho with ⟨_,o1,o2,o3⟩ | ⟨o0,_⟩ | ⟨o0,_⟩
   · obtain ⟨g1,g2,g3,g4⟩:=h2.good hg (by omega) (by omega) o3
     refine ⟨⟨hgd',?_,?_,?_,?_,?_⟩,by rw [g4],by rw [g4]⟩ <;> simp only [idl,PIdl.step,if_pos h1]
     · rw [g2,hs.base]
     · rw [g3,hs.over]
     · rw [g4];exact hs.epoch
     · rw [g4];simp only;rw [hs.seq]
     · rw [g4];exact hs.done
   · omega
   · omega
 · have h1':¬ (ops n).k=1:=by omega
   rcases ho with ⟨o0,_⟩ | ⟨_,o1,o2,o3⟩ | ⟨o0,_⟩
   · omega
   · obtain ⟨g1,g2,g3,g4⟩:=h2.good hg (by omega) (by omega) (by omega)
     refine ⟨⟨hgd',?_,?_,?_,?_,?_⟩,by rw [g4],by rw [g4]⟩ <;> simp only [idl,PIdl.step,if_neg h1',if_pos h1]
     · rw [g2,hs.base]
     · rw [g3,hs.over]
     · rw [g4];exact hs.epoch
     · rw [g4];simp only;rw [hs.seq]
     · rw [g4];exact hs.done
   · omega
 · have h1':¬ (ops n).k=1:=by omega
   have h2':¬ (ops n).k=2:=by omega
   have he:=hg.epoch
   obtain ⟨g1,g2,g3,g4⟩:=h3.good hg (by omega) (by omega) (by omega)
   refine ⟨⟨hgd',?_,?_,?_,?_,?_⟩,by rw [g4],by rw [g4]⟩ <;> simp only [idl,PIdl.step,if_neg h1',if_neg h2']
   · rw [g2,hs.base,hs.over]
   · rw [g3,(Vn B ops n).2]
   · rw [g4];simp only;have:=hs.epoch;omega
   · rw [g4];simp only;rw [hs.seq]
   · rw [g4];simp only;rw [hs.seq]
theorem mod_one {N s a b:Nat} (ha:s≤a∧a<s+N) (hb:s≤b∧b<s+N) (h:a % N=b % N):a=b:=by
 rcases Nat.le_total a b with hab | hab
 · have h1:=Nat.sub_mod_eq_zero_of_mod_eq h.symm
   rw [Nat.mod_eq_of_lt (by omega)] at h1
   omega
 · have h1:=Nat.sub_mod_eq_zero_of_mod_eq h
   rw [Nat.mod_eq_of_lt (by omega)] at h1
   omega
structure WinRel (ops:Nat→POp) (len next:Nat) (th:List Bool) (sl:List PSlot):Prop where
 pos:1≤sl.length
 thl:th.length=len+1
 thz:th.getD len false=false
 lo:∀ j<next,th.getD j false=true
 hi:∀ j,th.getD j false=true→j<next+sl.length
 sl:∀ i<sl.length,(sl.getD ((next+i+1) % sl.length) PSlot.none_).is=th.getD (next+i) false∧((sl.getD ((next+i+1) % sl.length) PSlot.none_).is=true→(sl.getD ((next+i+1) % sl.length) PSlot.none_).o=ops (next+i))
 nle:next≤len
theorem Kn {sl:List PSlot} {i k:Nat} {q:PSlot} (hi:i<sl.length):(sl.set i q).getD k PSlot.none_=if i=k then q else sl.getD k PSlot.none_:=by
 rw [List.getD_eq_getElem?_getD,List.getElem?_set]
 split
 · rename_i e
   subst e
   simp [hi]
 · rw [List.getD_eq_getElem?_getD]
theorem YO {l:List Bool} {i k:Nat} {b:Bool} (hi:i<l.length):(l.set i b).getD k false=if i=k then b else l.getD k false:=by
 rw [List.getD_eq_getElem?_getD,List.getElem?_set]
 split
 · rename_i e
   subst e
   simp [hi]
 · rw [List.getD_eq_getElem?_getD]
theorem WinRel.put {ops:Nat→POp} {len next:Nat} {th:List Bool} {sl:List PSlot} (h:WinRel ops len next th sl) {j:Nat} (hj:j<len) (h1:next≤j) (h2:j<next+sl.length) (v:Value) :
 WinRel ops len next (th.set j true) (sl.set ((j+1) % sl.length) ⟨v,ops j,true⟩):=by
 have hp:=h.pos
 have hl:=h.thl
 have hlt:(j+1) % sl.length<sl.length:=Nat.mod_lt _ hp
 refine ⟨by simpa using hp,by simpa using hl,?_,?_,?_,?_,h.nle⟩
 · rw [YO (by omega),if_neg (by omega)];exact h.thz
 · intro i hi
   rw [YO (by omega)]
   split
   · rfl
   · exact h.lo i hi
 · intro i hi
   rw [YO (by omega)] at hi
   rw [List.length_set]
   split at hi
   · omega
   · exact h.hi i hi
 · intro i hi
   rw [List.length_set] at hi ⊢
   rw [Kn hlt,YO (by omega)]
   by_cases e:j=next+i
   · subst e
     rw [if_pos rfl,if_pos rfl]
     exact ⟨rfl,fun _=>rfl⟩
   · have hne:¬ (j+1) % sl.length=(next+i+1) % sl.length:=fun hm=>e (by
      have:=mod_one (s:=next+1) ⟨by omega,by omega⟩ ⟨by omega,by omega⟩ hm
      omega)
     rw [if_neg hne,if_neg e]
     exact h.sl i hi
end
section
open Go.RowKit Go.Shelf
def ORow (w:World) (base:Nat) (v:Value) (o:Option (List UInt8)):Prop:=(o=none∧v = .slice none 0 0)∨∃ xs,o=some xs∧xs.length=64∧w.ownsRow base 5 1 v 64 (bys xs)
theorem ORow.keep {w w':World} {base:Nat} {v:Value} {o:Option (List UInt8)} {l:List Nat} (h:ORow w base v o) (hk:Keep l w w') (hv:∀ g∈v.ownBlock.toList,g∉l):ORow w' base v o:=by
 rcases h with h | ⟨xs,h1,h2,h3⟩
 · exact .inl h
 · exact .inr ⟨xs,h1,h2,QB h3 hk (fun g hg=>hv g (by simp [hg]))⟩
theorem ORow.rd {w:World} {base:Nat} {v:Value} {xs:List UInt8} (h:ORow w base v (some xs)):∃ g c,v = .slice (some ⟨g,0,none⟩) 64 c∧Rd w (some ⟨g,0,none⟩) 64 (bys xs)∧xs.length=64∧64≤c:=by
 rcases h with ⟨h,_⟩ | ⟨ys,h1,h2,h3⟩
 · cases h
 · cases h1
   obtain ⟨g,c,rfl,hc⟩:=KG h3 (by omega)
   exact ⟨g,c,rfl,Rd.of_own h3,h2,hc⟩
theorem ORow.nil {w:World} {base:Nat} {v:Value} (h:ORow w base v none):v = .slice none 0 0:=by
 rcases h with ⟨_,h⟩ | ⟨ys,h1,_⟩
 · exact h
 · cases h1
theorem ORow.lt {w:World} {base:Nat} {v:Value} {o:Option (List UInt8)} (h:ORow w base v o):∀ g∈v.ownBlock.toList,base≤g∧g<w.heap.size:=by
 rcases h with ⟨_,rfl⟩ | ⟨ys,_,_,h3⟩
 · intro g hg;simp [Value.ownBlock] at hg
 · exact fun g hg=>own_mem h3 hg
theorem ORow.one {w:World} {base:Nat} {v:Value} {o:Option (List UInt8)} (h:ORow w base v o):v.oneCell'=true:=by
 rcases h with ⟨_,rfl⟩ | ⟨ys,_,_,h3⟩
 · rfl
 · exact KAQ h3
structure IdlIs (w:World) (base i:Nat) (bv ov:Value) (bs:List (Value×List UInt8)) (os:List (Value×Option (List UInt8))) (F:List Nat) (I:PIdl):Prop where
 blk:Blk w i 139 #[bv,ov,.int .i64 I.ep,.int .i64 I.seq,.int .i64 I.done]
 brow:w.ownsRow base 40 1 bv bs.length (bs.map (·.1))
 orow:w.ownsRow base 40 1 ov os.length (os.map (·.1))
 bdat:∀ q∈bs,ORow w base q.1 (some q.2)
 odat:∀ q∈os,ORow w base q.1 q.2
 bsnd:bs.map (·.2)=I.base
 osnd:os.map (·.2)=I.over
 ne:bv.ownBlock≠ov.ownBlock
 foot:F=i :: (bv.ownBlock.toList++(ov.ownBlock.toList++(bs.flatMap (fun q=>q.1.ownBlock.toList)++os.flatMap (fun q=>q.1.ownBlock.toList))))
 base:base≤i
def VAK (w:World) (base i:Nat) (F:List Nat) (I:PIdl):Prop:=∃ bv ov bs os,IdlIs w base i bv ov bs os F I
namespace IdlIs
variable {w w':World} {base i:Nat} {bv ov:Value} {bs:List (Value×List UInt8)} {os:List (Value×Option (List UInt8))} {F l:List Nat} {I:PIdl}
theorem inI (h:IdlIs w base i bv ov bs os F I):i∈F:=by rw [h.foot];simp
theorem inB (h:IdlIs w base i bv ov bs os F I):∀ x∈bv.ownBlock.toList,x∈F:=fun x hx=>by rw [h.foot];simp only [List.mem_cons,List.mem_append];exact .inr (.inl hx)
theorem inO (h:IdlIs w base i bv ov bs os F I):∀ x∈ov.ownBlock.toList,x∈F:=fun x hx=>by rw [h.foot];simp only [List.mem_cons,List.mem_append];exact .inr (.inr (.inl hx))
theorem inBs (h:IdlIs w base i bv ov bs os F I) {q:Value×List UInt8} (hq:q∈bs):∀ x∈q.1.ownBlock.toList,x∈F:=fun x hx=>by
 rw [h.foot];simp only [List.mem_cons,List.mem_append];exact .inr (.inr (.inr (.inl (List.mem_flatMap.2 ⟨q,hq,hx⟩))))
theorem inOs (h:IdlIs w base i bv ov bs os F I) {q:Value×Option (List UInt8)} (hq:q∈os):∀ x∈q.1.ownBlock.toList,x∈F:=fun x hx=>by
 rw [h.foot];simp only [List.mem_cons,List.mem_append];exact .inr (.inr (.inr (.inr (List.mem_flatMap.2 ⟨q,hq,hx⟩))))
theorem keep (h:IdlIs w base i bv ov bs os F I) (hk:Keep l w w') (ha:Apart F l):IdlIs w' base i bv ov bs os F I:=
 ⟨h.blk.keep hk (ha _ h.inI),QB h.brow hk (fun x hx=>ha _ (h.inB x (by simp [hx]))),QB h.orow hk (fun x hx=>ha _ (h.inO x (by simp [hx]))),fun q hq=>(h.bdat q hq).keep hk (fun x hx=>ha _ (h.inBs hq x hx)),
   fun q hq=>(h.odat q hq).keep hk (fun x hx=>ha _ (h.inOs hq x hx)),h.bsnd,h.osnd,h.ne,h.foot,h.base⟩
theorem keep0 (h:IdlIs w base i bv ov bs os F I) (hk:Keep [] w w'):IdlIs w' base i bv ov bs os F I:=h.keep hk Apart.nil_right
theorem mem (h:IdlIs w base i bv ov bs os F I) {x:Nat} (hx:x∈F):x=i∨x∈bv.ownBlock.toList∨x∈ov.ownBlock.toList∨(∃ q∈bs,x∈q.1.ownBlock.toList)∨∃ q∈os,x∈q.1.ownBlock.toList:=by
 rw [h.foot] at hx
 simpa only [List.mem_cons,List.mem_append,List.mem_flatMap] using hx
theorem lt (h:IdlIs w base i bv ov bs os F I):∀ x∈F,base≤x∧x<w.heap.size:=fun x hx=>by
 rcases h.mem hx with rfl | hx | hx | ⟨q,hq,hx⟩ | ⟨q,hq,hx⟩
 · exact ⟨h.base,h.blk.lt⟩
 · exact own_mem h.brow hx
 · exact own_mem h.orow hx
 · exact (h.bdat q hq).lt x hx
 · exact (h.odat q hq).lt x hx
theorem blen (h:IdlIs w base i bv ov bs os F I):bs.length=I.base.length:=by rw [← h.bsnd];simp
theorem olen (h:IdlIs w base i bv ov bs os F I):os.length=I.over.length:=by rw [← h.osnd];simp
theorem oget (h:IdlIs w base i bv ov bs os F I) {k:Nat} (hk:k<os.length):I.over[k]? = some os[k].2:=by rw [← h.osnd,List.getElem?_map,List.getElem?_eq_getElem hk];rfl
theorem iB (h:IdlIs w base i bv ov bs os F I):i∉bv.ownBlock.toList:=fun hm=>own_blk_ne h.brow h.blk (by decide) (by simpa using hm)
theorem iO (h:IdlIs w base i bv ov bs os F I):i∉ov.ownBlock.toList:=fun hm=>own_blk_ne h.orow h.blk (by decide) (by simpa using hm)
end IdlIs
end
section
open Go.RowKit
theorem YAd {α:Type} (l:List α) (b:Nat) (v:α):YQ l b 0 v=l:=by
 apply List.ext_getElem?
 intro x
 rw [YS,if_neg (by omega)]
theorem JAa {α:Type} (l:List α) (b m:Nat) (v:α) (h:b+m<l.length):YQ l b (m+1) v=(YQ l b m v).set (b+m) v:=by
 apply List.ext_getElem?
 intro x
 rw [YS,List.getElem?_set,YS,VQ]
 by_cases e:b+m=x
 · subst e
   rw [if_pos rfl,if_pos h,if_pos (by omega)]
 · rw [if_neg e]
   by_cases hx:b≤x∧x<b+m∧x<l.length
   · rw [if_pos hx,if_pos (by omega)]
   · rw [if_neg hx,if_neg (by omega)]
def Xd (base:List (List UInt8)) (over:List (Option (List UInt8))) (m:Nat):List (List UInt8):=(XN base over).take m++base.drop m
def ZR (over:List (Option (List UInt8))) (m:Nat):List (Option (List UInt8)):=List.replicate m none++over.drop m
section
variable {base:List (List UInt8)} {over:List (Option (List UInt8))} {m:Nat} (h:base.length=over.length) (hm:m≤over.length)
include h hm
theorem YY (x:Nat):(Xd base over m)[x]? = if x<m then (XN base over)[x]? else base[x]? := by
 have hl:(XN base over).length=over.length:=by simp [XN,h]
 unfold Xd
 rw [List.getElem?_append]
 simp only [List.length_take,hl]
 by_cases hx:x<m
 · rw [if_pos (by omega),if_pos hx,List.getElem?_take,if_pos hx]
 · rw [if_neg (by omega),if_neg hx,List.getElem?_drop]
   congr 1;omega
omit h hm in
theorem JR (x:Nat):(ZR over m)[x]? = if x<m then some none else over[x]? := by
 unfold ZR
 rw [List.getElem?_append]
 simp only [List.length_replicate]
 by_cases hx:x<m
 · rw [if_pos hx,if_pos hx,List.getElem?_replicate,if_pos hx]
 · rw [if_neg hx,if_neg hx,List.getElem?_drop]
   congr 1;omega
theorem comAt_len:(Xd base over m).length=over.length∧(ZR over m).length=over.length:=by
 constructor
 · simp only [Xd,List.length_append,List.length_take,List.length_drop,XN,List.length_zipWith,h];omega
 · simp only [ZR,List.length_append,List.length_replicate,List.length_drop];omega
end
theorem JAc {base:List (List UInt8)} {over:List (Option (List UInt8))} {m:Nat} (h:base.length=over.length) (hm:m<over.length) {xs:List UInt8} (ho:over[m]? = some (some xs)) :
 Xd base over (m+1)=(Xd base over m).set m xs∧ZR over (m+1)=(ZR over m).set m none:=by
 have hb:base[m]? = some base[m]:=List.getElem?_eq_getElem (by omega)
 constructor
 · apply List.ext_getElem?
   intro x
   rw [YY h (by omega),List.getElem?_set,YY h (by omega),(comAt_len h (by omega)).1]
   by_cases e:m=x
   · subst e
     rw [if_pos (by omega),if_pos rfl,if_pos hm]
     unfold XN
     rw [List.getElem?_zipWith,hb,ho]
     rfl
   · rw [if_neg e]
     by_cases hx:x<m
     · rw [if_pos hx,if_pos (by omega)]
     · rw [if_neg hx,if_neg (by omega)]
 · apply List.ext_getElem?
   intro x
   rw [JR,List.getElem?_set,JR,(comAt_len h (by omega)).2]
   by_cases e:m=x
   · subst e
     rw [if_pos (by omega),if_pos rfl,if_pos hm]
   · rw [if_neg e]
     by_cases hx:x<m
     · rw [if_pos hx,if_pos (by omega)]
     · rw [if_neg hx,if_neg (by omega)]
theorem XAb {base:List (List UInt8)} {over:List (Option (List UInt8))} {m:Nat} (h:base.length=over.length) (hm:m<over.length) (ho:over[m]? = some none) :
 Xd base over (m+1)=Xd base over m∧ZR over (m+1)=ZR over m:=by
 have hb:base[m]? = some base[m]:=List.getElem?_eq_getElem (by omega)
 constructor
 · apply List.ext_getElem?
   intro x
   rw [YY h (by omega),YY h (by omega)]
   by_cases e:m=x
   · subst e
     rw [if_pos (by omega),if_neg (by omega)]
     unfold XN
     rw [List.getElem?_zipWith,hb,ho]
     rfl
   · by_cases hx:x<m
     · rw [if_pos hx,if_pos (by omega)]
     · rw [if_neg hx,if_neg (by omega)]
 · apply List.ext_getElem?
   intro x
   rw [JR,JR]
   by_cases e:m=x
   · subst e
     rw [if_pos (by omega),if_neg (by omega),ho]
   · by_cases hx:x<m
     · rw [if_pos hx,if_pos (by omega)]
     · rw [if_neg hx,if_neg (by omega)]
theorem JAo {base:List (List UInt8)} {over:List (Option (List UInt8))} (h:base.length=over.length):Xd base over over.length=XN base over∧ZR over over.length=List.replicate over.length none:=by
 constructor
 · unfold Xd
   rw [List.take_of_length_le (by simp [XN,h]),List.drop_of_length_le (by omega),List.append_nil]
 · unfold ZR
   rw [List.drop_of_length_le (by omega),List.append_nil]
end
end Go.Proofs.YtmoagodllhdemaaGreat
