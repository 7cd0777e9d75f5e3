/-
  A part of the proof: lemmas, and contracts of functions; their conditions stand in them.
-/
import Derived.Test.YtmoagodllhdemaaGreatH24
import Derived.Test.YtmoagodllhdemaaGreatH26
import Derived.Test.YtmoagodllhdemaaGreatH31
import Derived.Test.YtmoagodllhdemaaGreatH23
namespace Go.Proofs.YtmoagodllhdemaaGreat
set_option linter.unusedSimpArgs false
set_option linter.unusedVariables false
set_option maxHeartbeats 2000000
set_option maxRecDepth 20000
section
open Go.RowKit Go.Shelf
structure PSt where
 mode:Nat
 view:Nat
 epoch:Nat
 seq:Nat
 done:Nat
 mount:Nat
 gen:Nat
structure PS where
 D:PDisk
 us:List (Nat×Nat)
 lv:List Nat
 W:PW
 I:PImage
 st:PSt
 slot:Nat
 lie0:List Nat
 lie1:List Nat
def PSt.cs (s:PSt):List Value:=[.int .i64 s.mode,.int .i64 s.view,.int .i64 s.epoch,.int .i64 s.seq,.int .i64 s.done,.int .i64 s.mount,.int .i64 s.gen]
structure StoreIs (w:World) (base s d g t p m:Nat) (Fd Ft Fw Fm:List Nat) (L0 L1:Value) (B:Nat) (S:PS):Prop where
 blk:Blk w s 119 #[.pointer (some ⟨d,0,none⟩),.pointer (some ⟨g,0,none⟩),.pointer (some ⟨t,0,none⟩),.pointer (some ⟨m,0,none⟩),.pointer (some ⟨p,0,none⟩),
  .int .i64 S.st.mode,.int .i64 S.st.view,.int .i64 S.st.epoch,.int .i64 S.st.seq,.int .i64 S.st.done,.int .i64 S.st.mount,.int .i64 S.st.gen,.int .i64 0,.int .i64 0,.int .i64 0,.int .i64 S.slot,L0,L1]
 log:LogIs w base d g t p Fd Ft Fw B S.D S.us S.lv S.W
 img:ImageAt w base m Fm S.I
 blen:S.I.bl.length=B
 l0:w.ownsRow base 3 1 L0 (pgs B) (KM S.lie0)
 l1:w.ownsRow base 3 1 L1 (pgs B) (KM S.lie1)
 sbase:base≤s
 gbase:base≤g
 apm:Apart Fm (g :: (Fd++(Ft++Fw)))
 aps:s∉g :: (Fd++(Ft++(Fw++Fm)))
 apl:Apart (L0.ownBlock.toList++L1.ownBlock.toList) (s :: g :: (Fd++(Ft++(Fw++Fm))))
def VL (s g:Nat) (Fd Ft Fw Fm:List Nat) (L0 L1:Value):List Nat:=s :: g :: (Fd++(Ft++(Fw++(Fm++(L0.ownBlock.toList++L1.ownBlock.toList)))))
def StoreAt (w:World) (base s d:Nat) (F:List Nat) (B:Nat) (S:PS):Prop:=∃ g t p m Fd Ft Fw Fm L0 L1,StoreIs w base s d g t p m Fd Ft Fw Fm L0 L1 B S∧F=VL s g Fd Ft Fw Fm L0 L1
namespace StoreIs
variable {w w':World} {base s d g t p m:Nat} {Fd Ft Fw Fm l:List Nat} {L0 L1:Value} {B:Nat} {S:PS}
theorem keep (h:StoreIs w base s d g t p m Fd Ft Fw Fm L0 L1 B S) (hk:Keep l w w') (ha:Apart (VL s g Fd Ft Fw Fm L0 L1) l):StoreIs w' base s d g t p m Fd Ft Fw Fm L0 L1 B S:=by
 have ha':∀ x,x=s∨x=g∨x∈Fd∨x∈Ft∨x∈Fw∨x∈Fm∨x∈L0.ownBlock.toList∨x∈L1.ownBlock.toList→x∉l:=fun x hx=>ha x (by simpa only [VL,List.mem_cons,List.mem_append] using hx)
 exact ⟨h.blk.keep hk (ha' _ (by simp)),h.log.keep hk (ha' _ (by simp)) (fun x hx=>ha' x (by simp [hx])) (fun x hx=>ha' x (by simp [hx])) (fun x hx=>ha' x (by simp [hx])),h.img.keep hk (fun x hx=>ha' x (by simp [hx])),h.blen,
  JB h.l0 hk (fun x hx=>ha' x (by simp [hx])),JB h.l1 hk (fun x hx=>ha' x (by simp [hx])),h.sbase,h.gbase,h.apm,h.aps,h.apl⟩
theorem keep0 (h:StoreIs w base s d g t p m Fd Ft Fw Fm L0 L1 B S) (hk:Keep [] w w'):StoreIs w' base s d g t p m Fd Ft Fw Fm L0 L1 B S:=h.keep hk Apart.nil_right
theorem lt (h:StoreIs w base s d g t p m Fd Ft Fw Fm L0 L1 B S):∀ x∈VL s g Fd Ft Fw Fm L0 L1,x<w.heap.size:=by
 intro x hx
 simp only [VL,List.mem_cons,List.mem_append] at hx
 rcases hx with rfl | rfl | hx | hx | hx | hx | hx | hx
 · exact h.blk.lt
 · exact h.log.geom.lt
 · exact h.log.disk.lt x hx
 · exact h.log.tab.lt x hx
 · exact h.log.wri.lt x hx
 · exact h.img.lt x hx
 · exact (own_mem h.l0 hx).2
 · exact (own_mem h.l1 hx).2
theorem ge (h:StoreIs w base s d g t p m Fd Ft Fw Fm L0 L1 B S):∀ x∈VL s g Fd Ft Fw Fm L0 L1,base≤x:=by
 intro x hx
 simp only [VL,List.mem_cons,List.mem_append] at hx
 rcases hx with rfl | rfl | hx | hx | hx | hx | hx | hx
 · exact h.sbase
 · exact h.gbase
 · exact h.log.disk.ge x hx
 · exact h.log.tab.ge x hx
 · exact h.log.wri.ge x hx
 · exact h.img.ge x hx
 · exact (own_mem h.l0 hx).1
 · exact (own_mem h.l1 hx).1
theorem setLog (h:StoreIs w base s d g t p m Fd Ft Fw Fm L0 L1 B S) {Fd' Fw':List Nat} {D':PDisk} {us':List (Nat×Nat)} {lv':List Nat} {W':PW} (hl:LogIs w' base d g t p Fd' Ft Fw' B D' us' lv' W') (hk:Keep (Fd++(Ft++Fw)) w w') (hd:Grow w Fd Fd') (hw:Grow w Fw Fw') :
 StoreIs w' base s d g t p m Fd' Ft Fw' Fm L0 L1 B { S with D:=D',us:=us',lv:=lv',W:=W' }∧Grow w (VL s g Fd Ft Fw Fm L0 L1) (VL s g Fd' Ft Fw' Fm L0 L1):=by
 have hsn:∀ x,x∈Fd++(Ft++Fw)→x≠s:=fun x hx e=>h.aps (by subst e;simp only [List.mem_cons,List.mem_append] at hx ⊢;rcases hx with hx | hx | hx <;> simp [hx])
 have hmn:∀ x∈Fm,x∉Fd++(Ft++Fw):=fun x hx hm=>h.apm x hx (List.mem_cons_of_mem _ hm)
 have hln:∀ x∈L0.ownBlock.toList++L1.ownBlock.toList,x∉Fd++(Ft++Fw):=fun x hx hm=>h.apl x hx (by simp only [List.mem_cons,List.mem_append] at hm ⊢;rcases hm with hm | hm | hm <;> simp [hm])
 have hgr:∀ {A A':List Nat} {x:Nat},Grow w A A'→x<w.heap.size→x∉A→x∉A':=fun hg hx hn hm=>(hg _ hm).elim hn (by omega)
 have hslt:=h.blk.lt
 refine ⟨⟨h.blk.keep hk (fun hm=>hsn _ hm rfl),hl,h.img.keep hk hmn,h.blen,JB h.l0 hk (fun x hx=>hln x (List.mem_append_left _ (by simpa using hx))),JB h.l1 hk (fun x hx=>hln x (List.mem_append_right _ (by simpa using hx))),h.sbase,h.gbase,?_,?_,?_⟩,?_⟩
 · intro x hx hm
   have hxl:=h.img.lt x hx
   have h0:=h.apm x hx
   simp only [List.mem_cons,List.mem_append,not_or] at h0 hm
   rcases hm with hm | hm | hm | hm
   · exact h0.1 hm
   · exact hgr hd hxl h0.2.1 hm
   · exact h0.2.2.1 hm
   · exact hgr hw hxl h0.2.2.2 hm
 · intro hm
   have h0:=h.aps
   simp only [List.mem_cons,List.mem_append,not_or] at h0 hm
   rcases hm with hm | hm | hm | hm | hm
   · exact h0.1 hm
   · exact hgr hd hslt h0.2.1 hm
   · exact h0.2.2.1 hm
   · exact hgr hw hslt h0.2.2.2.1 hm
   · exact h0.2.2.2.2 hm
 · intro x hx hm
   have hxl:x<w.heap.size:=by
    rcases List.mem_append.1 hx with hx | hx
    · exact (own_mem h.l0 hx).2
    · exact (own_mem h.l1 hx).2
   have h0:=h.apl x hx
   simp only [List.mem_cons,List.mem_append,not_or] at h0 hm
   rcases hm with hm | hm | hm | hm | hm | hm
   · exact h0.1 hm
   · exact h0.2.1 hm
   · exact hgr hd hxl h0.2.2.1 hm
   · exact h0.2.2.2.1 hm
   · exact hgr hw hxl h0.2.2.2.2.1 hm
   · exact h0.2.2.2.2.2 hm
 · intro x hx
   simp only [VL,List.mem_cons,List.mem_append] at hx ⊢
   rcases hx with hx | hx | hx | hx | hx | hx | hx | hx
   · simp [hx]
   · simp [hx]
   · exact (hd x hx).imp (fun h=>by simp [h]) id
   · simp [hx]
   · exact (hw x hx).imp (fun h=>by simp [h]) id
   · simp [hx]
   · simp [hx]
   · simp [hx]
theorem setImg (h:StoreIs w base s d g t p m Fd Ft Fw Fm L0 L1 B S) {I':PImage} (hi:ImageAt w' base m Fm I') (hb:I'.bl.length=S.I.bl.length) (hk:Keep Fm w w') :
 StoreIs w' base s d g t p m Fd Ft Fw Fm L0 L1 B { S with I:=I' }:=by
 have ha:∀ x,x∈s :: g :: (Fd++(Ft++Fw))→x∉Fm:=fun x hx hm=>by
  rcases List.mem_cons.1 hx with rfl | hx
  · exact h.aps (by simp [hm])
  · exact h.apm x hm hx
 have hl:∀ x∈L0.ownBlock.toList++L1.ownBlock.toList,x∉Fm:=fun x hx hm=>h.apl x hx (by simp [hm])
 exact ⟨h.blk.keep hk (ha _ (by simp)),h.log.keep hk (ha _ (by simp)) (fun x hx=>ha x (by simp [hx])) (fun x hx=>ha x (by simp [hx])) (fun x hx=>ha x (by simp [hx])),hi,hb.trans h.blen,
  JB h.l0 hk (fun x hx=>hl x (List.mem_append_left _ (by simpa using hx))),JB h.l1 hk (fun x hx=>hl x (List.mem_append_right _ (by simpa using hx))),h.sbase,h.gbase,h.apm,h.aps,h.apl⟩
theorem setSt (h:StoreIs w base s d g t p m Fd Ft Fw Fm L0 L1 B S) (st:PSt) (hb:Blk w' s 119 #[.pointer (some ⟨d,0,none⟩),.pointer (some ⟨g,0,none⟩),.pointer (some ⟨t,0,none⟩),.pointer (some ⟨m,0,none⟩),.pointer (some ⟨p,0,none⟩),
 .int .i64 st.mode,.int .i64 st.view,.int .i64 st.epoch,.int .i64 st.seq,.int .i64 st.done,.int .i64 st.mount,.int .i64 st.gen,.int .i64 0,.int .i64 0,.int .i64 0,.int .i64 S.slot,L0,L1]) (hk:Keep [s] w w') :
 StoreIs w' base s d g t p m Fd Ft Fw Fm L0 L1 B { S with st:=st }:=by
 have ha:∀ x,x∈g :: (Fd++(Ft++(Fw++Fm)))→x∉[s]:=fun x hx hm=>by
  simp at hm;subst hm;exact h.aps hx
 have hl:∀ x∈L0.ownBlock.toList++L1.ownBlock.toList,x∉[s]:=fun x hx hm=>h.apl x hx (by simp at hm;simp [hm])
 exact ⟨hb,h.log.keep hk (ha _ (by simp)) (fun x hx=>ha x (by simp [hx])) (fun x hx=>ha x (by simp [hx])) (fun x hx=>ha x (by simp [hx])),h.img.keep hk (fun x hx=>ha x (by simp [hx])),h.blen,
  JB h.l0 hk (fun x hx=>hl x (List.mem_append_left _ (by simpa using hx))),JB h.l1 hk (fun x hx=>hl x (List.mem_append_right _ (by simpa using hx))),h.sbase,h.gbase,h.apm,h.aps,h.apl⟩
end StoreIs
namespace StoreAt
variable {w w':World} {base s d:Nat} {F l:List Nat} {B:Nat} {S:PS}
theorem keep (h:StoreAt w base s d F B S) (hk:Keep l w w') (ha:Apart F l):StoreAt w' base s d F B S:=by
 obtain ⟨g,t,p,m,Fd,Ft,Fw,Fm,L0,L1,h,rfl⟩:=h
 exact ⟨g,t,p,m,Fd,Ft,Fw,Fm,L0,L1,h.keep hk ha,rfl⟩
theorem keep0 (h:StoreAt w base s d F B S) (hk:Keep [] w w'):StoreAt w' base s d F B S:=h.keep hk Apart.nil_right
theorem lt (h:StoreAt w base s d F B S):∀ x∈F,x<w.heap.size:=by obtain ⟨g,t,p,m,Fd,Ft,Fw,Fm,L0,L1,h,rfl⟩:=h;exact h.lt
theorem ge (h:StoreAt w base s d F B S):∀ x∈F,base≤x:=by obtain ⟨g,t,p,m,Fd,Ft,Fw,Fm,L0,L1,h,rfl⟩:=h;exact h.ge
end StoreAt
theorem VD {w:World} {g:Nat} {t:TypeId} {x0 x1 x2 x3 x4 x5 x6 x7 x8 x9 x10 x11 x12 x13 x14 x15 x16 x17:Value} (h:Blk w g t #[x0,x1,x2,x3,x4,x5,x6,x7,x8,x9,x10,x11,x12,x13,x14,x15,x16,x17]) :
 w.cell? ⟨g,0,none⟩=some x0∧w.cell? ⟨g,1,none⟩=some x1∧w.cell? ⟨g,2,none⟩=some x2∧w.cell? ⟨g,3,none⟩=some x3∧w.cell? ⟨g,4,none⟩=some x4∧w.cell? ⟨g,5,none⟩=some x5∧w.cell? ⟨g,6,none⟩=some x6∧w.cell? ⟨g,7,none⟩=some x7∧w.cell? ⟨g,8,none⟩=some x8∧w.cell? ⟨g,9,none⟩=some x9 ∧
 w.cell? ⟨g,10,none⟩=some x10∧w.cell? ⟨g,11,none⟩=some x11∧w.cell? ⟨g,12,none⟩=some x12∧w.cell? ⟨g,13,none⟩=some x13∧w.cell? ⟨g,14,none⟩=some x14∧w.cell? ⟨g,15,none⟩=some x15∧w.cell? ⟨g,16,none⟩=some x16∧w.cell? ⟨g,17,none⟩=some x17:=
 ⟨by simpa using h.cell 0,by simpa using h.cell 1,by simpa using h.cell 2,by simpa using h.cell 3,by simpa using h.cell 4,by simpa using h.cell 5,by simpa using h.cell 6,by simpa using h.cell 7,by simpa using h.cell 8,by simpa using h.cell 9,
   by simpa using h.cell 10,by simpa using h.cell 11,by simpa using h.cell 12,by simpa using h.cell 13,by simpa using h.cell 14,by simpa using h.cell 15,by simpa using h.cell 16,by simpa using h.cell 17⟩
end
section
open Go.RowKit
def Xb (B:Nat) (lv:List Nat) (a:Nat) (gone:List Int):List Nat:=
 gone.foldl (fun lv x=>if 0<x then KK lv ((x.toNat-(6+4*pgs B)) / 24) (-1) else lv) (if a=0 then lv else KK lv ((a-(6+4*pgs B)) / 24) 1)
def Wrote (B:Nat) (S:PS) (b:Nat) (bs:List UInt8) (S':PS):Prop:=
 ∃ D' us' lv1 W' a,Added B S.D S.us S.lv S.W ⟨1,b,0,0⟩ bs D' us' lv1 W' a ∧
   S'={ S with D:=D',us:=us',lv:=Xb B lv1 a [ZF (S.I.ol.getD b 0) a],W:=W',I:={ S.I with ol:=S.I.ol.set b a,od:=JL S.I.ol S.I.od b a },st:={ S.st with seq:=S.st.seq+1 } }
def Trimmed (B:Nat) (S:PS) (b n:Nat) (S':PS):Prop:=
 ∃ D' us' lv1 W' a,Added B S.D S.us S.lv S.W ⟨2,b,n,0⟩ [] D' us' lv1 W' a ∧
   S'={ S with D:=D',us:=us',lv:=Xb B lv1 0 (ZG b n S.I.ol S.I.od).1,W:=W',I:={ S.I with ol:=(ZG b n S.I.ol S.I.od).2.1,od:=(ZG b n S.I.ol S.I.od).2.2 },st:={ S.st with seq:=S.st.seq+1 } }
def Marked (B:Nat) (S:PS) (e:Nat) (S':PS):Prop:=
 ∃ D1 us1 lv1 W1 a D2 us2 W2 bd od,Added B S.D S.us S.lv S.W ⟨3,0,0,e⟩ [] D1 us1 lv1 W1 a∧Emitted B D1 us1 W1 D2 us2 W2 ∧
   S'={ S with D:=D2.flush,us:=us2,lv:=Xb B lv1 0 (Xn S.I.bl S.I.ol S.I.ol.length),W:=W2,I:=⟨Zi S.I.bl S.I.ol S.I.ol.length,bd,Jb S.I.ol S.I.ol.length,od⟩,st:={ S.st with epoch:=e,seq:=S.st.seq+1,done:=S.st.seq+1 } }
def RefOk (B:Nat) (S:PS) (a:Int):Prop:=a=0∨(0<a∧Lies B S.us S.W a.toNat)
def zeros64:List UInt8:=List.replicate 64 0
def YI (B:Nat) (S:PS) (a:Int):List UInt8:=if a=0 then zeros64 else XM B S.D S.W a.toNat
structure Good (B:Nat) (S:PS) (k j:Nat):Prop where
 cap:Cap S.D S.us S.W k j
 now:S.D.now.length=S.D.n*64
 many:S.D.n=198+4*pgs B
 flt:∀ x∈S.D.faults,x=false
 flen:S.D.faults.length=S.D.n
 b1:1≤B
 b64:B≤64
 bl:S.I.bl.length=B
 ol:S.I.ol.length=B
 brefs:∀ x∈S.I.bl,RefOk B S x
 orefs:∀ x∈S.I.ol,x = -1∨RefOk B S x
 seq:S.st.seq≤j
 epoch:S.st.epoch≤j
 done:S.st.done≤S.st.seq
def ZK (B:Nat) (S:PS):List (List UInt8):=S.I.bl.map (YI B S)
def ZS (B:Nat) (S:PS):List (Option (List UInt8)):=S.I.ol.map (fun a=>if a = -1 then none else some (YI B S a))
theorem Qc {B:Nat} {S S':PS} (h:∀ x,Lies B S.us S.W x→Lies B S'.us S'.W x∧XM B S'.D S'.W x=XM B S.D S.W x) {a:Int} (ha:RefOk B S a):RefOk B S' a∧YI B S' a=YI B S a:=by
 rcases ha with rfl | ⟨h0,hl⟩
 · exact ⟨.inl rfl,rfl⟩
 · obtain ⟨h1,h2⟩:=h _ hl
   exact ⟨.inr ⟨h0,h1⟩,by unfold YI;rw [if_neg (by omega),if_neg (by omega)];exact h2⟩
theorem Qb {B:Nat} {S S':PS} (h:∀ x,Lies B S.us S.W x→Lies B S'.us S'.W x∧XM B S'.D S'.W x=XM B S.D S.W x) {l:List Int} (hl:∀ a∈l,RefOk B S a):(∀ a∈l,RefOk B S' a)∧l.map (YI B S')=l.map (YI B S):=
 ⟨fun a ha=>(Qc h (hl a ha)).1,List.map_congr_left fun a ha=>(Qc h (hl a ha)).2⟩
theorem Va {B:Nat} {S S':PS} (h:∀ x,Lies B S.us S.W x→Lies B S'.us S'.W x∧XM B S'.D S'.W x=XM B S.D S.W x) {l:List Int} (hl:∀ a∈l,a = -1∨RefOk B S a) :
 (∀ a∈l,a = -1∨RefOk B S' a)∧l.map (fun a=>if a = -1 then none else some (YI B S' a))=l.map (fun a=>if a = -1 then none else some (YI B S a)):=
 ⟨fun a ha=>(hl a ha).imp id (fun h'=>(Qc h h').1),List.map_congr_left fun a ha=>by
   rcases hl a ha with rfl | h'
   · rfl
   · rw [(Qc h h').2]⟩
theorem RefOk.range {B:Nat} {S:PS} {a:Int} (h:RefOk B S a) (h64:B≤64):0≤a∧a<4096:=by
 rcases h with rfl | ⟨h0,hl⟩
 · omega
 · have:=hl.hi
   have:pgs B≤5:=by unfold pgs;omega
   omega
theorem Wrote.good {B:Nat} {S S':PS} {b k j:Nat} {bs:List UInt8} (h:Wrote B S b bs S') (hg:Good B S k j) (hk:k≤50) (hb:b<B) (hl:bs.length=64) :
 Good B S' (k+1) (j+1)∧ZK B S'=ZK B S∧ZS B S'=(ZS B S).set b (some bs)∧S'.st={ S.st with seq:=S.st.seq+1 }:=by
 obtain ⟨D',us',lv1,W',a,hA,rfl⟩:=h
 have hmay:PItem.May ⟨1,b,0,0⟩ := .inl ⟨.inl rfl,by have:=hg.b64;simp only;omega,rfl,rfl⟩
 have hc:=hg.cap.added hk hmay (fun _=>hl) hA
 obtain ⟨r1,r2,r3,r4,r5⟩:=hA.reads hg.cap hk hg.now hg.many
 obtain ⟨ra,rb⟩:=r5 rfl
 have hK:∀ x,Lies B S.us S.W x→Lies B us' W' x∧XM B D' W' x=XM B S.D S.W x:=fun x hx=>⟨(r4 x hx).1,(r4 x hx).2.1⟩
 have hKb:=Qb (B:=B) (S:=S) (S':={ S with D:=D',us:=us',W:=W' }) hK hg.brefs
 have hKo:=Va (B:=B) (S:=S) (S':={ S with D:=D',us:=us',W:=W' }) hK hg.orefs
 have h0:a≠0:=by have:=ra.lo;omega
 refine ⟨⟨hc,r1,r2.trans hg.many,by simp only;rw [r3];exact hg.flt,by simp only;rw [r3,r2];exact hg.flen,hg.b1,hg.b64,hg.bl,by simpa using hg.ol,hKb.1,?_,by have:=hg.seq;simp only;omega,by have:=hg.epoch;simp only;omega,by have:=hg.done;simp only;omega⟩,hKb.2,?_,rfl⟩
 · intro x hx
   rcases List.mem_or_eq_of_mem_set hx with hx | rfl
   · exact hKo.1 x hx
   · exact .inr (.inr ⟨by omega,by simpa using ra⟩)
 · unfold ZS
   simp only
   rw [List.map_set]
   congr 1
   · exact hKo.2
   · rw [if_neg (by omega)]
     unfold YI
     rw [if_neg (by omega)]
     simp only [Int.toNat_natCast]
     rw [rb]
theorem Qe (b n:Nat) (l:List Int) (ds:List Bool) (x:Nat):(ZG b n l ds).2.1[x]? = if b≤x∧x<b+n∧x<l.length then some 0 else l[x]? := by
 induction n with
 | zero=>rw [if_neg (by omega)];rfl
 | succ n ih=>
   rw [ZQ]
   have hst:((QO b (ZG b n l ds) n).2.1)=(ZG b n l ds).2.1.set (b+n) 0:=rfl
   rw [hst,List.getElem?_set,ih]
   have hlen:=(QK b n l ds).1
   rw [hlen]
   split
   · rename_i e
     subst e
     by_cases hx:b+n<l.length
     · rw [if_pos hx,if_pos (by omega)]
     · rw [if_neg hx,if_neg (by omega),List.getElem?_eq_none (by omega)]
   · rename_i e
     by_cases hx:b≤x∧x<b+n∧x<l.length
     · rw [if_pos hx,if_pos (by omega)]
     · rw [if_neg hx,if_neg (by omega)]
def ZAD {α:Type} (l:List α) (b n:Nat) (v:α):List α:=(List.range l.length).map fun x=>if b≤x∧x<b+n then v else l.getD x v
theorem XAD {α:Type} (l:List α) (b n:Nat) (v:α) (x:Nat):(ZAD l b n v)[x]? = if b≤x∧x<b+n∧x<l.length then some v else l[x]? := by
 unfold ZAD
 rw [List.getElem?_map]
 by_cases hx:x<l.length
 · rw [List.getElem?_range hx]
   simp only [Option.map_some]
   split
   · rw [if_pos (by omega)]
   · rw [if_neg (by omega),List.getD_eq_getElem?_getD,List.getElem?_eq_getElem hx];rfl
 · rw [List.getElem?_eq_none (by simpa using hx),if_neg (by omega),List.getElem?_eq_none (by omega)];rfl
theorem Trimmed.good {B:Nat} {S S':PS} {b n k j:Nat} (h:Trimmed B S b n S') (hg:Good B S k j) (hk:k≤50) (hn:1≤n) (hb:b+n≤B) :
 Good B S' (k+1) (j+1)∧ZK B S'=ZK B S∧ZS B S'=ZAD (ZS B S) b n (some zeros64)∧S'.st={ S.st with seq:=S.st.seq+1 }:=by
 obtain ⟨D',us',lv1,W',a,hA,rfl⟩:=h
 have hmay:PItem.May ⟨2,b,n,0⟩ := .inr (.inl ⟨.inl rfl,by have:=hg.b64;simp only;omega,hn,by have:=hg.b64;simp only;omega,rfl⟩)
 have hc:=hg.cap.added hk hmay (fun h=>by cases h) hA
 obtain ⟨r1,r2,r3,r4,r5⟩:=hA.reads hg.cap hk hg.now hg.many
 have hK:∀ x,Lies B S.us S.W x→Lies B us' W' x∧XM B D' W' x=XM B S.D S.W x:=fun x hx=>⟨(r4 x hx).1,(r4 x hx).2.1⟩
 have hKb:=Qb (B:=B) (S:=S) (S':={ S with D:=D',us:=us',W:=W' }) hK hg.brefs
 have hKo:=Va (B:=B) (S:=S) (S':={ S with D:=D',us:=us',W:=W' }) hK hg.orefs
 have hol:=hg.ol
 have hlen:=(QK b n S.I.ol S.I.od).1
 refine ⟨⟨hc,r1,r2.trans hg.many,by simp only;rw [r3];exact hg.flt,by simp only;rw [r3,r2];exact hg.flen,hg.b1,hg.b64,hg.bl,by simp only;rw [hlen];exact hol,hKb.1,?_,by have:=hg.seq;simp only;omega,by have:=hg.epoch;simp only;omega,by have:=hg.done;simp only;omega⟩,hKb.2,?_,rfl⟩
 · intro x hx
   obtain ⟨i,hi⟩:=List.getElem?_of_mem hx
   rw [Qe] at hi
   split at hi
   · cases hi;exact .inr (.inl rfl)
   · exact hKo.1 x (List.mem_of_getElem? hi)
 · apply List.ext_getElem?
   intro x
   rw [XAD]
   unfold ZS
   simp only [List.getElem?_map,List.length_map]
   rw [Qe]
   split
   · rfl
   · rw [← List.getElem?_map,← List.getElem?_map]
     exact congrArg (·[x]?) hKo.2
end
section
open Go.RowKit
def ZAW (base:List (List UInt8)) (over:List (Option (List UInt8))):List (List UInt8):=List.zipWith (fun b o=>o.getD b) base over
theorem Vi {bl ol:List Int} (h:bl.length=ol.length):Zi bl ol ol.length=List.zipWith (fun b o=>if o = -1 then b else o) bl ol:=by
 unfold Zi
 rw [List.take_of_length_le (by simp;omega),List.drop_of_length_le (by omega),List.append_nil]
theorem YO (ol:List Int):Jb ol ol.length=List.replicate ol.length (-1):=by
 unfold Jb
 rw [List.drop_of_length_le (by omega),List.append_nil]
theorem Marked.good {B:Nat} {S S':PS} {e k j:Nat} (h:Marked B S e S') (hg:Good B S k j) (hk:k≤50) (he:1≤e∧e≤j+1) (hj:j≤100000) :
 Good B S' (k+1) (j+2)∧ZK B S'=ZAW (ZK B S) (ZS B S)∧ZS B S'=List.replicate B none∧S'.st={ S.st with epoch:=e,seq:=S.st.seq+1,done:=S.st.seq+1 }:=by
 obtain ⟨D1,us1,lv1,W1,a,D2,us2,W2,bd,od,hA,hE,rfl⟩:=h
 have hmay:PItem.May ⟨3,0,0,e⟩ := .inr (.inr (.inl ⟨rfl,rfl,rfl,he.1,by simp only;omega⟩))
 have hc:=hg.cap.added hk hmay (fun h=>by cases h) hA
 obtain ⟨r1,r2,r3,r4,r5⟩:=hA.reads hg.cap hk hg.now hg.many
 have hc2:=hc.mark hE 1 (by omega) D2.flush (by show D2.acts+1≤_;omega)
 obtain ⟨q1,q2⟩:=hE.reads hc.ok r1 (r2.trans hg.many) hc.seg hc.off
 obtain ⟨_,_,_,_,_,_,_,_,_,_,_,f1,_,_,f4⟩:=hE.facts hc.ok
 have hK:∀ x,Lies B S.us S.W x→Lies B us2 W2 x∧XM B D2.flush W2 x=XM B S.D S.W x:=by
  intro x hx
  obtain ⟨a1,a2,_⟩:=r4 x hx
  obtain ⟨b1,b2⟩:=q2 x a1
  exact ⟨b1,b2.trans a2⟩
 have hKb:=Qb (B:=B) (S:=S) (S':={ S with D:=D2.flush,us:=us2,W:=W2 }) hK hg.brefs
 have hKo:=Va (B:=B) (S:=S) (S':={ S with D:=D2.flush,us:=us2,W:=W2 }) hK hg.orefs
 have hbl:=hg.bl
 have hol:=hg.ol
 have hlen:S.I.bl.length=S.I.ol.length:=by omega
 refine ⟨⟨hc2,q1,(f1.trans r2).trans hg.many,?_,?_,hg.b1,hg.b64,?_,?_,?_,?_,by have:=hg.seq;simp only;omega,by simp only;omega,by simp only;omega⟩,?_,?_,rfl⟩
 · show ∀ x∈D2.faults,x=false
   rw [f4,r3];exact hg.flt
 · show D2.faults.length=D2.n
   rw [f4,r3,f1,r2];exact hg.flen
 · simp only;rw [Vi hlen];simp;omega
 · simp only;rw [YO];simp;omega
 · intro x hx
   simp only at hx
   rw [Vi hlen] at hx
   obtain ⟨i,hi⟩:=List.getElem?_of_mem hx
   rw [List.getElem?_zipWith] at hi
   split at hi
   · rename_i u v hu hv
     simp only [Option.some.injEq] at hi
     subst hi
     split
     · exact hKb.1 u (List.mem_of_getElem? hu)
     · exact (hKo.1 v (List.mem_of_getElem? hv)).resolve_left (by assumption)
   · cases hi
 · intro x hx
   simp only at hx
   rw [YO] at hx
   exact .inl (List.eq_of_mem_replicate hx)
 · have e1:ZK B S=S.I.bl.map (YI B { S with D:=D2.flush,us:=us2,W:=W2 }):=hKb.2.symm
   have e2:ZS B S=S.I.ol.map (fun a=>if a = -1 then none else some (YI B { S with D:=D2.flush,us:=us2,W:=W2 } a)):=hKo.2.symm
   rw [e1,e2]
   unfold ZK ZAW
   simp only
   rw [Vi hlen]
   apply List.ext_getElem?
   intro i
   simp only [List.getElem?_map,List.getElem?_zipWith]
   rcases S.I.bl[i]? with _ | u <;> rcases S.I.ol[i]? with _ | v
   · rfl
   · rfl
   · rfl
   · simp only [Option.map_some,Option.some.injEq]
     split <;> rfl
 · unfold ZS
   simp only
   rw [YO,List.map_replicate,if_pos rfl,hol]
end
section
open Go.RowKit Go.Shelf
section
variable (w:World) (base s d g t p m:Nat) (Fd Ft Fw Fm:List Nat) (L0 L1:Value) (B:Nat) (S:PS) (h:StoreIs w base s d g t p m Fd Ft Fw Fm L0 L1 B S)
include h
theorem ImageS_is:Calls Tryz.prog 50 #[.pointer (some ⟨s,0,none⟩)] w fun e w'=>e = .returned (.pointer (some ⟨m,0,none⟩))∧w=w':=by
 obtain ⟨c0,c1,c2,c3,c4,c5,c6,c7,c8,c9,c10,c11,c12,c13,c14,c15,c16,c17⟩:=VD h.blk
 go_enter Tryz.func50,Tryz.ntmps50
 go_wp2
 go_ret
 exact ⟨rfl,rfl⟩
theorem DiskS_is:Calls Tryz.prog 111 #[.pointer (some ⟨s,0,none⟩)] w fun e w'=>e = .returned (.pointer (some ⟨d,0,none⟩))∧w=w':=by
 obtain ⟨c0,c1,c2,c3,c4,c5,c6,c7,c8,c9,c10,c11,c12,c13,c14,c15,c16,c17⟩:=VD h.blk
 go_enter Tryz.func111,Tryz.ntmps111
 go_wp2
 go_ret
 exact ⟨rfl,rfl⟩
theorem BlocksS_is:Calls Tryz.prog 112 #[.pointer (some ⟨m,0,none⟩)] w fun e w'=>e = .returned (.int .i64 (B:Nat))∧w=w':=by
 obtain ⟨p1,p2,F1,F2,hi⟩:=h.img
 have:=BlocksI_is w base m p1 p2 Fm F1 F2 S.I hi
 rw [h.blen] at this
 exact this
theorem Vt (b n:Nat) (hn:1≤n) (hb:b+n≤B):Calls Tryz.prog 141 #[.pointer (some ⟨s,0,none⟩),.int .i64 (b:Nat),.int .i64 (n:Nat)] w fun e w'=>e = .returned (.bool true)∧w=w':=by
 have hI:=ImageS_is w base s d g t p m Fd Ft Fw Fm L0 L1 B S h
 have hB:=BlocksS_is w base s d g t p m Fd Ft Fw Fm L0 L1 B S h
 have h64:B≤64:=h.log.geom.few
 have h1:(1:Int)≤(n:Nat):=by omega
 have h2:((n:Nat):Int)≤(B:Nat):=by omega
 have h3:((b:Nat):Int)≤(B:Nat)-(n:Nat):=by omega
 go_enter Tryz.func141,Tryz.ntmps141
 go_wp2_with (first | (refine hI.mono ?_;clear hI;rintro e w' ⟨rfl,rfl⟩) | (refine hB.mono ?_;clear hB;rintro e w' ⟨rfl,rfl⟩))
 go_ret
 exact ⟨rfl,rfl⟩
theorem Xc (mode:Nat) (hm:mode=0∨mode=S.st.mode):Calls Tryz.prog 132 #[.pointer (some ⟨s,0,none⟩),.int .i64 (mode:Nat),.bool true] w fun e w'=>e = .returned (.int .i64 0)∧w=w':=by
 obtain ⟨c0,c1,c2,c3,c4,c5,c6,c7,c8,c9,c10,c11,c12,c13,c14,c15,c16,c17⟩:=VD h.blk
 have hOf:=Qx w base d Fd S.D h.log.disk
 rw [h.log.off] at hOf
 by_cases h0:mode=0
 · subst h0
   go_enter Tryz.func132,Tryz.ntmps132
   go_wp2_with (refine hOf.mono ?_;clear hOf;rintro e w' ⟨rfl,rfl⟩)
   go_ret
   exact ⟨rfl,rfl⟩
 · obtain rfl:=hm.resolve_left h0
   have h0':¬ ((S.st.mode:Nat):Int)=0:=by omega
   go_enter Tryz.func132,Tryz.ntmps132
   go_wp2_with (refine hOf.mono ?_;clear hOf;rintro e w' ⟨rfl,rfl⟩)
   go_ret
   exact ⟨rfl,rfl⟩
theorem KAc (hm:S.st.mode=1):Calls Tryz.prog 132 #[.pointer (some ⟨s,0,none⟩),.int .i64 1,.bool false] w fun e w'=>e = .returned (.int .i64 1)∧w=w':=by
 obtain ⟨c0,c1,c2,c3,c4,c5,c6,c7,c8,c9,c10,c11,c12,c13,c14,c15,c16,c17⟩:=VD h.blk
 rw [hm] at c5
 go_enter Tryz.func132,Tryz.ntmps132
 go_wp2_with fail
 go_ret
 exact ⟨rfl,rfl⟩
theorem Qi (a:Nat) (ha:a=0∨(6+4*pgs B≤a∧a<198+4*pgs B)) (A:Option Addr) (n c:Nat) (zs:List Int) (hz:Rd w A n (QQ zs)) (hr:∀ z∈zs,z≤0∨(6+4*pgs B≤z.toNat∧z.toNat<198+4*pgs B)) (hn:n≤1000) (hA:∀ x,A=some x→x.block∉Ft) :
 Calls Tryz.prog 62 #[.pointer (some ⟨s,0,none⟩),.int .i64 (a:Nat),.slice A n c] w fun e w'=>e = .returned (.tuple #[])∧StoreIs w' base s d g t p m Fd Ft Fw Fm L0 L1 B { S with lv:=Xb B S.lv a zs }∧Keep Ft w w':=by
 have hzl:zs.length=n:=by simpa using hz.1
 have hsF:s∉Ft:=fun hm=>h.aps (by simp [hm])
 have hgF:g∉Ft:=h.log.gt
 have hfst:Calls Tryz.prog 128 #[.pointer (some ⟨t,0,none⟩),.int .i64 (a:Nat),.int .i64 1] w fun e w'=>∃ b,e = .returned (.bool b)∧TableAt w' base t g Ft S.us (Xb B S.lv a [])∧Keep Ft w w':=by
  rcases ha with rfl | ⟨h1,h2⟩
  · refine (XBA w base t g Ft S.us S.lv h.log.tab B h.log.geom 1).mono ?_
    rintro e w' ⟨rfl,hk⟩
    exact ⟨_,rfl,h.log.tab.keep0 hk,hk.zero⟩
  · refine (KAU w base t g Ft S.us S.lv h.log.tab B h.log.geom a h1 h2 1 (.inl rfl)).mono ?_
    rintro e w' ⟨rfl,ht,hk⟩
    refine ⟨_,rfl,?_,hk⟩
    unfold Xb
    rw [if_neg (by omega)]
    exact ht
 have hfin:∀ w' lv',TableAt w' base t g Ft S.us lv'→Keep Ft w w'→StoreIs w' base s d g t p m Fd Ft Fw Fm L0 L1 B { S with lv:=lv' }:=fun w' lv' ht hk=>(h.setLog (h.log.setTab ht hk) (hk.sub (fun x hx=>by simp [hx])) (Grow.refl _ _) (Grow.refl _ _)).1
 have hblk:=h.blk
 have hgeo:=h.log.geom
 obtain ⟨c0,c1,c2,c3,c4,c5,c6,c7,c8,c9,c10,c11,c12,c13,c14,c15,c16,c17⟩:=VD hblk
 clear h
 have HZL:=JC hzl
 clear hzl
 go_enter Tryz.func62,Tryz.ntmps62
 go_wp2_with (refine hfst.mono ?_;clear hfst;rintro e w1 ⟨b,rfl,ht1,hk1⟩)
 clear c0 c1 c2 c3 c4 c5 c6 c7 c8 c9 c10 c11 c12 c13 c14 c15 c16 c17
 go_loopw [16] (fun i wr=>∃ j:Nat,j≤n∧i = .int .i64 (j:Nat)∧TableAt wr base t g Ft S.us (Xb B S.lv a (zs.take j))∧Keep Ft w wr) (fun i _=>n-(intOf i).toNat)
 case atStart=>exact ⟨0,Nat.zero_le _,rfl,by simpa using ht1,hk1⟩
 case round=>
  obtain ⟨j,hj,rfl,htj,hkj⟩:=hrel
  by_cases hjn:j<n
  · have hjl:j<zs.length:=by rw [JA HZL];exact hjn
    obtain ⟨ab,ao,u,rfl,hu,hab,hcell⟩:=(hz.keepIf hkj hA).at_ hjn
    have hzx:zs[j]? = some zs[j]:=List.getElem?_eq_getElem hjl
    simp only [QQ,i64,List.getElem?_map,hzx,Option.map_some,Option.some.injEq] at hu
    have hzr:=hr zs[j] (List.getElem_mem _)
    have hsn:Xb B S.lv a (zs.take (j+1))=if 0<zs[j] then KK (Xb B S.lv a (zs.take j)) ((zs[j].toNat-(6+4*pgs B)) / 24) (-1) else Xb B S.lv a (zs.take j):=by
     unfold Xb
     rw [List.take_succ_eq_append_getElem hjl,List.foldl_append]
     rfl
    obtain ⟨c0,c1,c2,c3,c4,c5,c6,c7,c8,c9,c10,c11,c12,c13,c14,c15,c16,c17⟩:=VD (hblk.keep hkj hsF)
    subst hu
    have HSN:=JC hsn
    clear hsn hzx
    generalize zs[j]=z at *
    by_cases hz0:0<z
    · have hz1:=hzr.resolve_left (by omega)
      have hAd:=KAU wr base t g Ft S.us _ htj B (hgeo.keep hkj hgF) z.toNat hz1.1 hz1.2 (-1) (.inr rfl)
      rw [show ((z.toNat:Nat):Int)=z by omega] at hAd
      go_wp2_with (refine hAd.mono ?_;clear hAd;rintro e w2 ⟨rfl,ht2,hk2⟩)
      go_roundw
      case rel=>exact ⟨j+1,by omega,by go_num,by rw [JA HSN,if_pos hz0];exact ht2,hkj.trans hk2 (fun x hx => .inl hx)⟩
      case measure=>simp [intOf];omega
    · go_wp2_with fail
      go_roundw
      case rel=>exact ⟨j+1,by omega,by go_num,by rw [JA HSN,if_neg hz0];exact htj,hkj⟩
      case measure=>simp [intOf];omega
  · obtain rfl:j=n:=by omega
    go_wp2_with fail
    refine bodyPost_end (v := .tuple #[]) (by simp [results,Tryz.results62,go_sem]) rfl ?_
    rw [List.take_of_length_le (by rw [JA HZL];exact Nat.le_refl _)] at htj
    exact ⟨rfl,hfin _ _ htj hkj,hkj⟩
theorem ZAa (ho:S.W.Ok) (ha:S.D.acts≤1000000) (hlsn:S.W.pos.lsn<2147483647) :
 Calls Tryz.prog 259 #[.pointer (some ⟨s,0,none⟩)] w fun e w'=>e = .returned (.int .i64 0)∧∃ Fd' Fw' D2 us2 W2,StoreIs w' base s d g t p m Fd' Ft Fw' Fm L0 L1 B { S with D:=D2.flush,us:=us2,W:=W2 }∧Emitted B S.D S.us S.W D2 us2 W2 ∧
  Keep (Fd++(Ft++Fw)) w w'∧Grow w Fd Fd'∧Grow w Fw Fw':=by
 have hE:=Xv w base d g t p Fd Ft Fw B S.D S.us S.lv S.W h.log ho ha hlsn
 have hblk:=h.blk
 have hsn:s∉Fd++(Ft++Fw):=fun hm=>h.aps (by simp only [List.mem_cons,List.mem_append] at hm ⊢;rcases hm with hm | hm | hm <;> simp [hm])
 obtain ⟨c0,c1,c2,c3,c4,c5,c6,c7,c8,c9,c10,c11,c12,c13,c14,c15,c16,c17⟩:=VD hblk
 go_enter Tryz.func259,Tryz.ntmps259
 go_wp2_with (first
  | (go_at_call 133
     refine hE.mono ?_
     clear hE c0 c1 c2 c3 c4 c5 c6 c7 c8 c9 c10 c11 c12 c13 c14 c15 c16 c17
     rintro e w1 ⟨rfl,Fd1,Fw1,D1,us1,W1,h1,hE1,hk1,hg1,hgw1⟩
     obtain ⟨c0,c1,c2,c3,c4,c5,c6,c7,c8,c9,c10,c11,c12,c13,c14,c15,c16,c17⟩:=VD (hblk.keep hk1 hsn)
     have hf:=hE1.facts ho
     have hFl:=Yh w1 base d Fd1 D1 h1.disk h1.off h1.fuse (by have:=hf.2.2.2.2.2.2.2.2.1;omega) h1.le)
  | (go_at_call 16
     refine hFl.mono ?_
     clear hFl
     rintro e w2 ⟨rfl,Fd2,hD2,hk2,hg2⟩))
 go_ret
 have h2:=h1.setDisk hD2 hk2 hg2 rfl rfl rfl
 have hkk:Keep (Fd++(Ft++Fw)) w w2:=hk1.trans hk2 (fun x hx=>(hg1 x hx).imp (fun h=>by simp [h]) id)
 obtain ⟨hS,_⟩:=h.setLog h2 hkk (hg1.trans hk1.size hg2) hgw1
 exact ⟨rfl,Fd2,Fw1,D1,us1,W1,hS,hE1,hkk,hg1.trans hk1.size hg2,hgw1⟩
end
end
section
open Go.RowKit Go.Shelf
theorem XZ {B:Nat} {S:PS} {x z:Int} (h:x = -1∨RefOk B S x):ZF x z≤0∨(6+4*pgs B≤(ZF x z).toNat∧(ZF x z).toNat<198+4*pgs B):=by
 unfold ZF
 split
 · exact .inl (Int.le_refl _)
 · rcases h with rfl | rfl | ⟨h0,hl⟩
   · exact .inl (by omega)
   · exact .inl (by omega)
   · right
     rw [show max x 0=x by omega]
     exact ⟨hl.lo,hl.hi⟩
theorem Kw {l:List Int} {i:Nat} (h:i<l.length):l.getD i 0∈l:=by
 rw [List.getD_eq_getElem?_getD,List.getElem?_eq_getElem h]
 exact List.getElem_mem h
theorem Good.room {B:Nat} {S:PS} {k j:Nat} (hg:Good B S k j) (hk:k≤50) {m:Nat} (hm:m≤1) (spare:Bool):VAZ S.us S.W m spare:=by
 intro _ hf
 have hfree:=hg.cap.free hk hm hf
 obtain ⟨g1,g2⟩:=VS S.us (by omega)
 exact ⟨by have:=hg.cap.ul;omega,g2,fun _=>hfree⟩
theorem JAu {s g:Nat} {Fd Ft Fw Fm:List Nat} {L0 L1:Value} {l:List Nat} (h:∀ x∈l,x=s∨x∈Fd∨x∈Ft∨x∈Fw∨x∈Fm):∀ x∈l,x∈VL s g Fd Ft Fw Fm L0 L1:=fun x hx=>by
 simp only [VL,List.mem_cons,List.mem_append]
 rcases h x hx with h | h | h | h | h <;> simp [h]
theorem VAb (w:World) (base s d:Nat) (F:List Nat) (B:Nat) (S:PS) (h:StoreAt w base s d F B S) (k j:Nat) (hg:Good B S k j) (hk:k≤50) (hj:j≤20000) (hm:S.st.mode=1) (b:Nat) (hb:b<B) (A:Option Addr) (c:Nat) (bs:List UInt8) (hr:Rd w A 64 (bys bs)) (hA:∀ x,A=some x→x.block∉F) :
 Calls Tryz.prog 202 #[.pointer (some ⟨s,0,none⟩),.int .i64 (b:Nat),.slice A 64 c] w fun e w'=>e = .returned (.int .i64 0)∧∃ F' S',StoreAt w' base s d F' B S'∧Wrote B S b bs S'∧Keep F w w'∧Grow w F F':=by
 obtain ⟨g,t,p,m,Fd,Ft,Fw,Fm,L0,L1,h,rfl⟩:=h
 have hbl:bs.length=64:=by simpa using hr.1
 have hH:=Vt w base s d g t p m Fd Ft Fw Fm L0 L1 B S h b 1 (by omega) (by omega)
 have hQ:=Xc w base s d g t p m Fd Ft Fw Fm L0 L1 B S h 1 (.inr hm.symm)
 have hmay:PItem.May ⟨1,b,0,0⟩ := .inl ⟨.inl rfl,by have:=hg.b64;simp only;omega,rfl,rfl⟩
 have hacts:=hg.cap.acts
 have hlsn:=hg.cap.lsn
 have hAd:=JAV w base d g t p Fd Ft Fw B S.D S.us S.lv S.W h.log hg.cap.ok hg.cap.off false (by omega) (by omega) hg.cap.opn ⟨1,b,0,0⟩ hmay (by simp) (hg.room hk (by unfold QX;split <;> omega) false) A c bs (by simpa [QX,PItem.loaded] using hr) (fun x hx hm=>hA x hx (JAu (by intro y hy;simp only [List.mem_append] at hy;rcases hy with h | h | h <;> simp [h]) _ hm))
 rw [show 64*QX ⟨1,b,0,0⟩=64 by simp [QX,PItem.loaded]] at hAd
 simp only [itc] at hAd
 have hblk:=h.blk
 have hseq:S.st.seq≤20000:=by have:=hg.seq;omega
 have hsn:s∉Fd++(Ft++Fw):=fun hm=>h.aps (by simp only [List.mem_cons,List.mem_append] at hm ⊢;rcases hm with hm | hm | hm <;> simp [hm])
 obtain ⟨c0,c1,c2,c3,c4,c5,c6,c7,c8,c9,c10,c11,c12,c13,c14,c15,c16,c17⟩:=VD hblk
 go_enter Tryz.func202,Tryz.ntmps202
 go_wp2_with (first
  | (go_at_call 141
     refine hH.mono ?_
     clear hH
     rintro e w' ⟨rfl,rfl⟩)
  | (go_at_call 132
     refine hQ.mono ?_
     clear hQ
     rintro e w' ⟨rfl,rfl⟩)
  | (go_at_call 256
     refine hAd.mono ?_
     clear hAd c0 c1 c2 c3 c4 c5 c6 c7 c8 c9 c10 c11 c12 c13 c14 c15 c16 c17
     rintro e w1 ⟨a,rfl,Fd1,Fw1,D1,us1,lv1,W1,h1,hA1,hk1,hg1,hgw1⟩
     have hblk1:=hblk.keep hk1 hsn
     have f8:=hblk1.frozen 8
     obtain ⟨c0,c1,c2,c3,c4,c5,c6,c7,c8,c9,c10,c11,c12,c13,c14,c15,c16,c17⟩:=VD hblk1))
 obtain ⟨hI1,hG1⟩:=h.setLog h1 hk1 hg1 hgw1
 have hks:Keep [s] w1 (w1.setCell ⟨s,8,none⟩ (.int .i64 ((S.st.seq:Nat)+1))):=(Keep.refl _ _).setCell (p:=⟨s,8,none⟩) (.inl (by simp)) _
 have hbz:=hblk1.set 8 (.int .i64 ((S.st.seq:Nat)+1))
 have hI2:=hI1.setSt { S.st with seq:=S.st.seq+1 } (by simpa using hbz) hks
 obtain ⟨_,_,_,_,hAr⟩:=hA1.reads hg.cap hk hg.now hg.many
 obtain ⟨hAr,_⟩:=hAr rfl
 have hal:=hAr.lo
 have hah:=hAr.hi
 have hp5:=(JE h.log.geom.pos h.log.geom.few).2
 have hW:=QAg _ base m Fm S.I hI2.img b a (by rw [h.blen];exact hb) (by omega)
 have hgo:=XZ (z:=(a:Nat)) (hg.orefs (S.I.ol.getD b 0) (Kw (by rw [hg.ol];exact hb)))
 obtain ⟨gone,hgone⟩:∃ z,z=ZF (S.I.ol.getD b 0) a:=⟨_,rfl⟩
 rw [← hgone] at hW hgo
 have HGO:=JC hgone
 clear hgone
 generalize w1.setCell ⟨s,8,none⟩ (.int .i64 ((S.st.seq:Nat)+1))=w2 at *
 have hmF:s∉Fm:=fun hm=>h.aps (by simp [hm])
 have hblk2:=hI2.blk
 clear c0 c1 c2 c3 c4 c5 c6 c7 c8 c9 c10 c11 c12 c13 c14 c15 c16 c17
 go_wp2_with (first
  | (go_at_call 257
     refine hW.mono ?_
     clear hW
     rintro e w3 ⟨rfl,hi3,hk3⟩))
 have hI3:=hI2.setImg hi3 (by simp) hk3
 have hkB:Keep [] w3 (w3.alloc (.cells #[.int .i64 gone] 3)):=(Keep.refl _ _).alloc _
 have hrd:=VO w3 (.int .i64 gone) 3
 have hlt3:∀ x∈Ft,x<w3.heap.size:=fun x hx=>hI3.log.tab.lt x hx
 have hLv:=Qi _ base s d g t p m Fd1 Ft Fw1 Fm L0 L1 B _ (hI3.keep0 hkB) a (.inr ⟨hal,hah⟩) _ 1 1 [gone] hrd (by simpa using hgo) (by omega) (fun x hx hm=>by cases hx;have:=hlt3 _ hm;simp at this)
 go_wp2_with (refine hLv.mono ?_;clear hLv;rintro e w4 ⟨rfl,hI4,hk4⟩)
 go_ret
 have hsub:∀ {l:List Nat} {u v:World},(∀ x∈l,x=s∨x∈Fd∨x∈Ft∨x∈Fw∨x∈Fm)→Keep l u v→Keep (VL s g Fd Ft Fw Fm L0 L1) u v:=fun hl hk=>hk.sub (JAu hl)
 have K1:=hsub (by intro x hx;simp only [List.mem_append] at hx;rcases hx with h | h | h <;> simp [h]) hk1
 have K2:=K1.trans (hsub (by intro x hx;simp at hx;simp [hx]) hks) (fun x hx => .inl hx)
 have K3:=K2.trans (hsub (by intro x hx;simp [hx]) hk3) (fun x hx => .inl hx)
 have K4:=(K3.trans0 hkB).trans (hsub (by intro x hx;simp [hx]) hk4) (fun x hx => .inl hx)
 refine ⟨rfl,_,_,⟨g,t,p,m,Fd1,Ft,Fw1,Fm,L0,L1,hI4,rfl⟩,⟨D1,us1,lv1,W1,a,hA1,?_⟩,K4,hG1⟩
 rw [← JA HGO]
end
section
open Go.RowKit Go.Shelf
theorem VAE {B:Nat} {S:PS} (b n:Nat) (l:List Int) (ds:List Bool) (h:∀ x∈l,x = -1∨RefOk B S x) (hb:b+n≤l.length) :
 (∀ x∈(ZG b n l ds).2.1,x = -1∨RefOk B S x)∧∀ x∈(ZG b n l ds).1,x≤0∨(6+4*pgs B≤x.toNat∧x.toNat<198+4*pgs B):=by
 induction n with
 | zero=>exact ⟨h,by intro x hx;cases hx⟩
 | succ n ih=>
   obtain ⟨h1,h2⟩:=ih (by omega)
   have hlen:=(QK b n l ds).1
   rw [ZQ]
   unfold QO
   refine ⟨fun x hx=>?_,fun x hx=>?_⟩
   · simp only at hx
     rcases List.mem_or_eq_of_mem_set hx with hx | rfl
     · exact h1 x hx
     · exact .inr (.inl rfl)
   · simp only at hx
     split at hx
     · rcases List.mem_append.1 hx with hx | hx
       · exact h2 x hx
       · simp only [List.mem_singleton] at hx
         subst hx
         exact XZ (h1 _ (Kw (by omega)))
     · exact h2 x (by simpa using hx)
theorem KAg {B:Nat} {S:PS} (bl ol:List Int) (k:Nat) (h:∀ x∈bl,RefOk B S x):∀ x∈Xn bl ol k,x≤0∨(6+4*pgs B≤x.toNat∧x.toNat<198+4*pgs B):=by
 intro x hx
 unfold Xn at hx
 obtain ⟨p,hp,hx⟩:=List.mem_flatMap.1 hx
 have hp1:p.1∈bl:=(List.of_mem_zip (List.mem_of_mem_take hp)).1
 split at hx
 · cases hx
 · split at hx
   · simp only [List.mem_singleton] at hx
     subst hx
     exact XZ (.inr (h _ hp1))
   · cases hx
theorem VAk (w:World) (base s d:Nat) (F:List Nat) (B:Nat) (S:PS) (h:StoreAt w base s d F B S) (k j:Nat) (hg:Good B S k j) (hk:k≤50) (hj:j≤20000) (hm:S.st.mode=1) (b n:Nat) (hn:1≤n) (hb:b+n≤B) :
 Calls Tryz.prog 203 #[.pointer (some ⟨s,0,none⟩),.int .i64 (b:Nat),.int .i64 (n:Nat)] w fun e w'=>e = .returned (.int .i64 0)∧∃ F' S',StoreAt w' base s d F' B S'∧Trimmed B S b n S'∧Keep F w w'∧Grow w F F':=by
 obtain ⟨g,t,p,m,Fd,Ft,Fw,Fm,L0,L1,h,rfl⟩:=h
 have hH:=Vt w base s d g t p m Fd Ft Fw Fm L0 L1 B S h b n hn hb
 have hQ:=Xc w base s d g t p m Fd Ft Fw Fm L0 L1 B S h 1 (.inr hm.symm)
 have hmay:PItem.May ⟨2,b,n,0⟩ := .inr (.inl ⟨.inl rfl,by have:=hg.b64;simp only;omega,hn,by have:=hg.b64;simp only;omega,rfl⟩)
 have hacts:=hg.cap.acts
 have hlsn:=hg.cap.lsn
 have hAd:=JAV w base d g t p Fd Ft Fw B S.D S.us S.lv S.W h.log hg.cap.ok hg.cap.off false (by omega) (by omega) hg.cap.opn ⟨2,b,n,0⟩ hmay (by simp) (hg.room hk (by unfold QX;split <;> omega) false) none 0 [] (by rw [show 64*QX ⟨2,b,n,0⟩=0 by simp [QX,PItem.loaded]];exact Rd.nil w none) (fun x hx=>by cases hx)
 rw [show 64*QX ⟨2,b,n,0⟩=0 by simp [QX,PItem.loaded]] at hAd
 simp only [itc] at hAd
 have hblk:=h.blk
 have hseq:S.st.seq≤20000:=by have:=hg.seq;omega
 have hsn:s∉Fd++(Ft++Fw):=fun hm=>h.aps (by simp only [List.mem_cons,List.mem_append] at hm ⊢;rcases hm with hm | hm | hm <;> simp [hm])
 obtain ⟨c0,c1,c2,c3,c4,c5,c6,c7,c8,c9,c10,c11,c12,c13,c14,c15,c16,c17⟩:=VD hblk
 go_enter Tryz.func203,Tryz.ntmps203
 go_wp2_with (first
  | (go_at_call 141
     refine hH.mono ?_
     clear hH
     rintro e w' ⟨rfl,rfl⟩)
  | (go_at_call 132
     refine hQ.mono ?_
     clear hQ
     rintro e w' ⟨rfl,rfl⟩)
  | (go_at_call 256
     refine hAd.mono ?_
     clear hAd c0 c1 c2 c3 c4 c5 c6 c7 c8 c9 c10 c11 c12 c13 c14 c15 c16 c17
     rintro e w1 ⟨a,rfl,Fd1,Fw1,D1,us1,lv1,W1,h1,hA1,hk1,hg1,hgw1⟩
     have hblk1:=hblk.keep hk1 hsn
     have f8:=hblk1.frozen 8
     obtain ⟨c0,c1,c2,c3,c4,c5,c6,c7,c8,c9,c10,c11,c12,c13,c14,c15,c16,c17⟩:=VD hblk1))
 obtain ⟨hI1,hG1⟩:=h.setLog h1 hk1 hg1 hgw1
 have hks:Keep [s] w1 (w1.setCell ⟨s,8,none⟩ (.int .i64 ((S.st.seq:Nat)+1))):=(Keep.refl _ _).setCell (p:=⟨s,8,none⟩) (.inl (by simp)) _
 have hbz:=hblk1.set 8 (.int .i64 ((S.st.seq:Nat)+1))
 have hI2:=hI1.setSt { S.st with seq:=S.st.seq+1 } (by simpa using hbz) hks
 have hW:=YAj _ base m Fm S.I hI2.img b n hn (by rw [h.blen];exact hb)
 have hgo:=(VAE b n S.I.ol S.I.od hg.orefs (by rw [hg.ol];exact hb)).2
 have hgl:=(KQ b n S.I.ol S.I.od (-1) (by omega) hI2.img.ok.2.2).2.2
 have hb64:=hg.b64
 obtain ⟨tr,htr⟩:∃ z,z=ZG b n S.I.ol S.I.od:=⟨_,rfl⟩
 have htl:tr.2.1.length=S.I.ol.length:=by rw [htr];exact (QK b n S.I.ol S.I.od).1
 rw [← htr] at hW hgo hgl
 have HGO:=JC htr
 clear htr
 generalize w1.setCell ⟨s,8,none⟩ (.int .i64 ((S.st.seq:Nat)+1))=w2 at *
 have hmF:s∉Fm:=fun hm=>h.aps (by simp [hm])
 have hblk2:=hI2.blk
 clear c0 c1 c2 c3 c4 c5 c6 c7 c8 c9 c10 c11 c12 c13 c14 c15 c16 c17
 go_wp2_with (first
  | (go_at_call 258
     refine hW.mono ?_
     clear hW
     rintro e w3 ⟨G,rfl,hG,hi3,hk3⟩
     obtain ⟨GA,gc,rfl,_⟩:=KB hG))
 have hI3:=hI2.setImg hi3 (by simp) hk3
 have hlt3:∀ x∈Ft,x<w2.heap.size:=fun x hx=>hI2.log.tab.lt x hx
 have hLv:=Qi _ base s d g t p m Fd1 Ft Fw1 Fm L0 L1 B _ hI3 0 (.inl rfl) GA tr.1.length gc tr.1 (Rd.of_own hG) hgo (by omega) (fun x hx hm=>by
  subst hx
  obtain ⟨h1,h2⟩ | ⟨gb,cap,cur,e,h1,_⟩:=hG.2
  · cases h1
  · injection e with e _ _
    injection e with e
    subst e
    have:=hlt3 _ hm
    simp at this;omega)
 go_wp2_with (refine hLv.mono ?_;clear hLv;rintro e w4 ⟨rfl,hI4,hk4⟩)
 go_ret
 have hsub:∀ {l:List Nat} {u v:World},(∀ x∈l,x=s∨x∈Fd∨x∈Ft∨x∈Fw∨x∈Fm)→Keep l u v→Keep (VL s g Fd Ft Fw Fm L0 L1) u v:=fun hl hk=>hk.sub (JAu hl)
 have K1:=hsub (by intro x hx;simp only [List.mem_append] at hx;rcases hx with h | h | h <;> simp [h]) hk1
 have K2:=K1.trans (hsub (by intro x hx;simp at hx;simp [hx]) hks) (fun x hx => .inl hx)
 have K3:=K2.trans (hsub (by intro x hx;simp [hx]) hk3) (fun x hx => .inl hx)
 have K4:=K3.trans (hsub (by intro x hx;simp [hx]) hk4) (fun x hx => .inl hx)
 refine ⟨rfl,_,_,⟨g,t,p,m,Fd1,Ft,Fw1,Fm,L0,L1,hI4,rfl⟩,⟨D1,us1,lv1,W1,a,hA1,?_⟩,K4,hG1⟩
 rw [← JA HGO]
end
end Go.Proofs.YtmoagodllhdemaaGreat
