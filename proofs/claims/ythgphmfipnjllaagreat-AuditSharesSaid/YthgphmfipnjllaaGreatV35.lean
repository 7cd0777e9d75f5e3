/- Lemmas of the proof, with their conditions. -/
import Derived.Test.YthgphmfipnjllaaGreatV34
import Derived.Test.YthgphmfipnjllaaGreatV31
namespace Go.Proofs.YthgphmfipnjllaaGreat
set_option linter.unusedSimpArgs false
set_option linter.unusedVariables false
set_option maxHeartbeats 2000000
set_option maxRecDepth 20000
section
open Go.RowKit Go.Shelf
structure PSt where
 mode:Nat
 view:Nat
 epoch:Nat
 seq:Nat
 done:Nat
 mount:Nat
 gen:Nat
structure PS where
 D:PDisk
 us:List (Nat×Nat)
 lv:List Nat
 W:PW
 I:PImage
 st:PSt
 slot:Nat
 lie0:List Nat
 lie1:List Nat
def PSt.cs (s:PSt):List Value:=[.int .i64 s.mode,.int .i64 s.view,.int .i64 s.epoch,.int .i64 s.seq,.int .i64 s.done,.int .i64 s.mount,.int .i64 s.gen]
structure StoreIs (w:World) (base s d g t p m:Nat) (Fd Ft Fw Fm:List Nat) (L0 L1:Value) (B:Nat) (S:PS):Prop where
 blk:Blk w s 111 #[.pointer (some ⟨d,0,none⟩),.pointer (some ⟨g,0,none⟩),.pointer (some ⟨t,0,none⟩),.pointer (some ⟨m,0,none⟩),.pointer (some ⟨p,0,none⟩),
  .int .i64 S.st.mode,.int .i64 S.st.view,.int .i64 S.st.epoch,.int .i64 S.st.seq,.int .i64 S.st.done,.int .i64 S.st.mount,.int .i64 S.st.gen,.int .i64 0,.int .i64 0,.int .i64 0,.int .i64 S.slot,L0,L1]
 log:LogIs w base d g t p Fd Ft Fw B S.D S.us S.lv S.W
 img:ImageAt w base m Fm S.I
 blen:S.I.bl.length=B
 l0:w.ownsRow base 3 1 L0 (pgs B) (ZP S.lie0)
 l1:w.ownsRow base 3 1 L1 (pgs B) (ZP S.lie1)
 sbase:base≤s
 gbase:base≤g
 apm:Apart Fm (g :: (Fd++(Ft++Fw)))
 aps:s∉g :: (Fd++(Ft++(Fw++Fm)))
 apl:Apart (L0.ownBlock.toList++L1.ownBlock.toList) (s :: g :: (Fd++(Ft++(Fw++Fm))))
def XO (s g:Nat) (Fd Ft Fw Fm:List Nat) (L0 L1:Value):List Nat:=s :: g :: (Fd++(Ft++(Fw++(Fm++(L0.ownBlock.toList++L1.ownBlock.toList)))))
def StoreAt (w:World) (base s d:Nat) (F:List Nat) (B:Nat) (S:PS):Prop:=∃ g t p m Fd Ft Fw Fm L0 L1,StoreIs w base s d g t p m Fd Ft Fw Fm L0 L1 B S∧F=XO s g Fd Ft Fw Fm L0 L1
namespace StoreIs
variable {w w':World} {base s d g t p m:Nat} {Fd Ft Fw Fm l:List Nat} {L0 L1:Value} {B:Nat} {S:PS}
theorem keep (h:StoreIs w base s d g t p m Fd Ft Fw Fm L0 L1 B S) (hk:Keep l w w') (ha:Apart (XO s g Fd Ft Fw Fm L0 L1) l):StoreIs w' base s d g t p m Fd Ft Fw Fm L0 L1 B S:=by
 have ha':∀ x,x=s∨x=g∨x∈Fd∨x∈Ft∨x∈Fw∨x∈Fm∨x∈L0.ownBlock.toList∨x∈L1.ownBlock.toList→x∉l:=fun x hx=>ha x (by simpa only[XO,List.mem_cons,List.mem_append] using hx)
 exact⟨h.blk.keep hk (ha' _ (by simp)),h.log.keep hk (ha' _ (by simp)) (fun x hx=>ha' x (by simp[hx])) (fun x hx=>ha' x (by simp[hx])) (fun x hx=>ha' x (by simp[hx])),h.img.keep hk (fun x hx=>ha' x (by simp[hx])),h.blen,
  KA h.l0 hk (fun x hx=>ha' x (by simp[hx])),KA h.l1 hk (fun x hx=>ha' x (by simp[hx])),h.sbase,h.gbase,h.apm,h.aps,h.apl⟩
theorem keep0 (h:StoreIs w base s d g t p m Fd Ft Fw Fm L0 L1 B S) (hk:Keep [] w w'):StoreIs w' base s d g t p m Fd Ft Fw Fm L0 L1 B S:=h.keep hk Apart.nil_right
theorem lt (h:StoreIs w base s d g t p m Fd Ft Fw Fm L0 L1 B S):∀ x∈XO s g Fd Ft Fw Fm L0 L1,x<w.heap.size:=by
 intro x hx
 simp only[XO,List.mem_cons,List.mem_append] at hx
 rcases hx with rfl | rfl | hx | hx | hx | hx | hx | hx
 · exact h.blk.lt
 · exact h.log.geom.lt
 · exact h.log.disk.lt x hx
 · exact h.log.tab.lt x hx
 · exact h.log.wri.lt x hx
 · exact h.img.lt x hx
 · exact(own_mem h.l0 hx).2
 · exact(own_mem h.l1 hx).2
theorem ge (h:StoreIs w base s d g t p m Fd Ft Fw Fm L0 L1 B S):∀ x∈XO s g Fd Ft Fw Fm L0 L1,base≤x:=by
 intro x hx
 simp only[XO,List.mem_cons,List.mem_append] at hx
 rcases hx with rfl | rfl | hx | hx | hx | hx | hx | hx
 · exact h.sbase
 · exact h.gbase
 · exact h.log.disk.ge x hx
 · exact h.log.tab.ge x hx
 · exact h.log.wri.ge x hx
 · exact h.img.ge x hx
 · exact(own_mem h.l0 hx).1
 · exact(own_mem h.l1 hx).1
theorem setLog (h:StoreIs w base s d g t p m Fd Ft Fw Fm L0 L1 B S) {Fd' Fw':List Nat} {D':PDisk} {us':List (Nat×Nat)} {lv':List Nat} {W':PW} (hl:LogIs w' base d g t p Fd' Ft Fw' B D' us' lv' W') (hk:Keep (Fd++(Ft++Fw)) w w') (hd:Grow w Fd Fd') (hw:Grow w Fw Fw') :
 StoreIs w' base s d g t p m Fd' Ft Fw' Fm L0 L1 B { S with D:=D',us:=us',lv:=lv',W:=W' }∧Grow w (XO s g Fd Ft Fw Fm L0 L1) (XO s g Fd' Ft Fw' Fm L0 L1):=by
 have hsn:∀ x,x∈Fd++(Ft++Fw)→x≠s:=fun x hx e=>h.aps (by subst e;simp only[List.mem_cons,List.mem_append] at hx ⊢;rcases hx with hx | hx | hx <;> simp[hx])
 have hmn:∀ x∈Fm,x∉Fd++(Ft++Fw):=fun x hx hm=>h.apm x hx (List.mem_cons_of_mem _ hm)
 have hln:∀ x∈L0.ownBlock.toList++L1.ownBlock.toList,x∉Fd++(Ft++Fw):=fun x hx hm=>h.apl x hx (by simp only[List.mem_cons,List.mem_append] at hm ⊢;rcases hm with hm | hm | hm <;> simp[hm])
 have hgr:∀ {A A':List Nat} {x:Nat},Grow w A A'→x<w.heap.size→x∉A→x∉A':=fun hg hx hn hm=>(hg _ hm).elim hn (by omega)
 have hslt:=h.blk.lt
 refine⟨⟨h.blk.keep hk (fun hm=>hsn _ hm rfl),hl,h.img.keep hk hmn,h.blen,KA h.l0 hk (fun x hx=>hln x (List.mem_append_left _ (by simpa using hx))),KA h.l1 hk (fun x hx=>hln x (List.mem_append_right _ (by simpa using hx))),h.sbase,h.gbase,?_,?_,?_⟩,?_⟩
 · intro x hx hm
   have hxl:=h.img.lt x hx
   have h0:=h.apm x hx
   simp only[List.mem_cons,List.mem_append,not_or] at h0 hm
   rcases hm with hm | hm | hm | hm
   · exact h0.1 hm
   · exact hgr hd hxl h0.2.1 hm
   · exact h0.2.2.1 hm
   · exact hgr hw hxl h0.2.2.2 hm
 · intro hm
   have h0:=h.aps
   simp only[List.mem_cons,List.mem_append,not_or] at h0 hm
   rcases hm with hm | hm | hm | hm | hm
   · exact h0.1 hm
   · exact hgr hd hslt h0.2.1 hm
   · exact h0.2.2.1 hm
   · exact hgr hw hslt h0.2.2.2.1 hm
   · exact h0.2.2.2.2 hm
 · intro x hx hm
   have hxl:x<w.heap.size:=by
    rcases List.mem_append.1 hx with hx | hx
    · exact(own_mem h.l0 hx).2
    · exact(own_mem h.l1 hx).2
   have h0:=h.apl x hx
   simp only[List.mem_cons,List.mem_append,not_or] at h0 hm
   rcases hm with hm | hm | hm | hm | hm | hm
   · exact h0.1 hm
   · exact h0.2.1 hm
   · exact hgr hd hxl h0.2.2.1 hm
   · exact h0.2.2.2.1 hm
   · exact hgr hw hxl h0.2.2.2.2.1 hm
   · exact h0.2.2.2.2.2 hm
 · intro x hx
   simp only[XO,List.mem_cons,List.mem_append] at hx ⊢
   rcases hx with hx | hx | hx | hx | hx | hx | hx | hx
   · simp[hx]
   · simp[hx]
   · exact(hd x hx).imp (fun h=>by simp[h]) id
   · simp[hx]
   · exact(hw x hx).imp (fun h=>by simp[h]) id
   · simp[hx]
   · simp[hx]
   · simp[hx]
theorem setImg (h:StoreIs w base s d g t p m Fd Ft Fw Fm L0 L1 B S) {I':PImage} (hi:ImageAt w' base m Fm I') (hb:I'.bl.length=S.I.bl.length) (hk:Keep Fm w w') :
 StoreIs w' base s d g t p m Fd Ft Fw Fm L0 L1 B { S with I:=I' }:=by
 have ha:∀ x,x∈s :: g :: (Fd++(Ft++Fw))→x∉Fm:=fun x hx hm=>by
  rcases List.mem_cons.1 hx with rfl | hx
  · exact h.aps (by simp[hm])
  · exact h.apm x hm hx
 have hl:∀ x∈L0.ownBlock.toList++L1.ownBlock.toList,x∉Fm:=fun x hx hm=>h.apl x hx (by simp[hm])
 exact⟨h.blk.keep hk (ha _ (by simp)),h.log.keep hk (ha _ (by simp)) (fun x hx=>ha x (by simp[hx])) (fun x hx=>ha x (by simp[hx])) (fun x hx=>ha x (by simp[hx])),hi,hb.trans h.blen,
  KA h.l0 hk (fun x hx=>hl x (List.mem_append_left _ (by simpa using hx))),KA h.l1 hk (fun x hx=>hl x (List.mem_append_right _ (by simpa using hx))),h.sbase,h.gbase,h.apm,h.aps,h.apl⟩
theorem setSt (h:StoreIs w base s d g t p m Fd Ft Fw Fm L0 L1 B S) (st:PSt) (hb:Blk w' s 111 #[.pointer (some ⟨d,0,none⟩),.pointer (some ⟨g,0,none⟩),.pointer (some ⟨t,0,none⟩),.pointer (some ⟨m,0,none⟩),.pointer (some ⟨p,0,none⟩),
 .int .i64 st.mode,.int .i64 st.view,.int .i64 st.epoch,.int .i64 st.seq,.int .i64 st.done,.int .i64 st.mount,.int .i64 st.gen,.int .i64 0,.int .i64 0,.int .i64 0,.int .i64 S.slot,L0,L1]) (hk:Keep [s] w w') :
 StoreIs w' base s d g t p m Fd Ft Fw Fm L0 L1 B { S with st:=st }:=by
 have ha:∀ x,x∈g :: (Fd++(Ft++(Fw++Fm)))→x∉[s]:=fun x hx hm=>by
  simp at hm;subst hm;exact h.aps hx
 have hl:∀ x∈L0.ownBlock.toList++L1.ownBlock.toList,x∉[s]:=fun x hx hm=>h.apl x hx (by simp at hm;simp[hm])
 exact⟨hb,h.log.keep hk (ha _ (by simp)) (fun x hx=>ha x (by simp[hx])) (fun x hx=>ha x (by simp[hx])) (fun x hx=>ha x (by simp[hx])),h.img.keep hk (fun x hx=>ha x (by simp[hx])),h.blen,
  KA h.l0 hk (fun x hx=>hl x (List.mem_append_left _ (by simpa using hx))),KA h.l1 hk (fun x hx=>hl x (List.mem_append_right _ (by simpa using hx))),h.sbase,h.gbase,h.apm,h.aps,h.apl⟩
end StoreIs
namespace StoreAt
variable {w w':World} {base s d:Nat} {F l:List Nat} {B:Nat} {S:PS}
theorem keep (h:StoreAt w base s d F B S) (hk:Keep l w w') (ha:Apart F l):StoreAt w' base s d F B S:=by
 obtain⟨g,t,p,m,Fd,Ft,Fw,Fm,L0,L1,h,rfl⟩:=h
 exact⟨g,t,p,m,Fd,Ft,Fw,Fm,L0,L1,h.keep hk ha,rfl⟩
theorem keep0 (h:StoreAt w base s d F B S) (hk:Keep [] w w'):StoreAt w' base s d F B S:=h.keep hk Apart.nil_right
theorem lt (h:StoreAt w base s d F B S):∀ x∈F,x<w.heap.size:=by obtain⟨g,t,p,m,Fd,Ft,Fw,Fm,L0,L1,h,rfl⟩:=h;exact h.lt
theorem ge (h:StoreAt w base s d F B S):∀ x∈F,base≤x:=by obtain⟨g,t,p,m,Fd,Ft,Fw,Fm,L0,L1,h,rfl⟩:=h;exact h.ge
end StoreAt
theorem KH {w:World} {g:Nat} {t:TypeId} {x0 x1 x2 x3 x4 x5 x6 x7 x8 x9 x10 x11 x12 x13 x14 x15 x16 x17:Value} (h:Blk w g t #[x0,x1,x2,x3,x4,x5,x6,x7,x8,x9,x10,x11,x12,x13,x14,x15,x16,x17]) :
 w.cell? ⟨g,0,none⟩=some x0∧w.cell? ⟨g,1,none⟩=some x1∧w.cell? ⟨g,2,none⟩=some x2∧w.cell? ⟨g,3,none⟩=some x3∧w.cell? ⟨g,4,none⟩=some x4∧w.cell? ⟨g,5,none⟩=some x5∧w.cell? ⟨g,6,none⟩=some x6∧w.cell? ⟨g,7,none⟩=some x7∧w.cell? ⟨g,8,none⟩=some x8∧w.cell? ⟨g,9,none⟩=some x9 ∧
 w.cell? ⟨g,10,none⟩=some x10∧w.cell? ⟨g,11,none⟩=some x11∧w.cell? ⟨g,12,none⟩=some x12∧w.cell? ⟨g,13,none⟩=some x13∧w.cell? ⟨g,14,none⟩=some x14∧w.cell? ⟨g,15,none⟩=some x15∧w.cell? ⟨g,16,none⟩=some x16∧w.cell? ⟨g,17,none⟩=some x17:=
 ⟨by simpa using h.cell 0,by simpa using h.cell 1,by simpa using h.cell 2,by simpa using h.cell 3,by simpa using h.cell 4,by simpa using h.cell 5,by simpa using h.cell 6,by simpa using h.cell 7,by simpa using h.cell 8,by simpa using h.cell 9,
   by simpa using h.cell 10,by simpa using h.cell 11,by simpa using h.cell 12,by simpa using h.cell 13,by simpa using h.cell 14,by simpa using h.cell 15,by simpa using h.cell 16,by simpa using h.cell 17⟩
end
section
open Go.RowKit
def Za (B:Nat) (lv:List Nat) (a:Nat) (gone:List Int):List Nat:=
 gone.foldl (fun lv x=>if 0<x then YH lv ((x.toNat-(6+4*pgs B)) / 24) (-1) else lv) (if a=0 then lv else YH lv ((a-(6+4*pgs B)) / 24) 1)
def Wrote (B:Nat) (S:PS) (b:Nat) (bs:List UInt8) (S':PS):Prop:=
 ∃ D' us' lv1 W' a,Added B S.D S.us S.lv S.W ⟨1,b,0,0⟩ bs D' us' lv1 W' a ∧
   S'={ S with D:=D',us:=us',lv:=Za B lv1 a [YF (S.I.ol.getD b 0) a],W:=W',I:={ S.I with ol:=S.I.ol.set b a,od:=ZJ S.I.ol S.I.od b a },st:={ S.st with seq:=S.st.seq+1 } }
def Trimmed (B:Nat) (S:PS) (b n:Nat) (S':PS):Prop:=
 ∃ D' us' lv1 W' a,Added B S.D S.us S.lv S.W ⟨2,b,n,0⟩ [] D' us' lv1 W' a ∧
   S'={ S with D:=D',us:=us',lv:=Za B lv1 0 (QM b n S.I.ol S.I.od).1,W:=W',I:={ S.I with ol:=(QM b n S.I.ol S.I.od).2.1,od:=(QM b n S.I.ol S.I.od).2.2 },st:={ S.st with seq:=S.st.seq+1 } }
def Marked (B:Nat) (S:PS) (e:Nat) (S':PS):Prop:=
 ∃ D1 us1 lv1 W1 a D2 us2 W2 bd od,Added B S.D S.us S.lv S.W ⟨3,0,0,e⟩ [] D1 us1 lv1 W1 a∧Emitted B D1 us1 W1 D2 us2 W2 ∧
   S'={ S with D:=D2.flush,us:=us2,lv:=Za B lv1 0 (Zp S.I.bl S.I.ol S.I.ol.length),W:=W2,I:=⟨Xb S.I.bl S.I.ol S.I.ol.length,bd,Ze S.I.ol S.I.ol.length,od⟩,st:={ S.st with epoch:=e,seq:=S.st.seq+1,done:=S.st.seq+1 } }
def RefOk (B:Nat) (S:PS) (a:Int):Prop:=a=0∨(0<a∧Lies B S.us S.W a.toNat)
def zeros64:List UInt8:=List.replicate 64 0
def ZN (B:Nat) (S:PS) (a:Int):List UInt8:=if a=0 then zeros64 else ZM B S.D S.W a.toNat
structure Good (B:Nat) (S:PS) (k j:Nat):Prop where
 cap:Cap S.D S.us S.W k j
 now:S.D.now.length=S.D.n*64
 many:S.D.n=198+4*pgs B
 flt:∀ x∈S.D.faults,x=false
 flen:S.D.faults.length=S.D.n
 b1:1≤B
 b64:B≤64
 bl:S.I.bl.length=B
 ol:S.I.ol.length=B
 brefs:∀ x∈S.I.bl,RefOk B S x
 orefs:∀ x∈S.I.ol,x = -1∨RefOk B S x
 seq:S.st.seq≤j
 epoch:S.st.epoch≤j
 done:S.st.done≤S.st.seq
def QW (B:Nat) (S:PS):List (List UInt8):=S.I.bl.map (ZN B S)
def XZ (B:Nat) (S:PS):List (Option (List UInt8)):=S.I.ol.map (fun a=>if a = -1 then none else some (ZN B S a))
theorem Vb {B:Nat} {S S':PS} (h:∀ x,Lies B S.us S.W x→Lies B S'.us S'.W x∧ZM B S'.D S'.W x=ZM B S.D S.W x) {a:Int} (ha:RefOk B S a):RefOk B S' a∧ZN B S' a=ZN B S a:=by
 rcases ha with rfl | ⟨h0,hl⟩
 · exact⟨.inl rfl,rfl⟩
 · obtain⟨h1,h2⟩:=h _ hl
   exact⟨.inr ⟨h0,h1⟩,by unfold ZN;rw[if_neg (by omega),if_neg (by omega)];exact h2⟩
theorem QV {B:Nat} {S S':PS} (h:∀ x,Lies B S.us S.W x→Lies B S'.us S'.W x∧ZM B S'.D S'.W x=ZM B S.D S.W x) {l:List Int} (hl:∀ a∈l,RefOk B S a):(∀ a∈l,RefOk B S' a)∧l.map (ZN B S')=l.map (ZN B S):=
 ⟨fun a ha=>(Vb h (hl a ha)).1,List.map_congr_left fun a ha=>(Vb h (hl a ha)).2⟩
theorem XV {B:Nat} {S S':PS} (h:∀ x,Lies B S.us S.W x→Lies B S'.us S'.W x∧ZM B S'.D S'.W x=ZM B S.D S.W x) {l:List Int} (hl:∀ a∈l,a = -1∨RefOk B S a) :
 (∀ a∈l,a = -1∨RefOk B S' a)∧l.map (fun a=>if a = -1 then none else some (ZN B S' a))=l.map (fun a=>if a = -1 then none else some (ZN B S a)):=
 ⟨fun a ha=>(hl a ha).imp id (fun h'=>(Vb h h').1),List.map_congr_left fun a ha=>by
   rcases hl a ha with rfl | h'
   · rfl
   · rw[(Vb h h').2]⟩
theorem RefOk.range {B:Nat} {S:PS} {a:Int} (h:RefOk B S a) (h64:B≤64):0≤a∧a<4096:=by
 rcases h with rfl | ⟨h0,hl⟩
 · omega
 · have:=hl.hi
   have:pgs B≤5:=by unfold pgs;omega
   omega
theorem Wrote.good {B:Nat} {S S':PS} {b k j:Nat} {bs:List UInt8} (h:Wrote B S b bs S') (hg:Good B S k j) (hk:k≤50) (hb:b<B) (hl:bs.length=64) :
 Good B S' (k+1) (j+1)∧QW B S'=QW B S∧XZ B S'=(XZ B S).set b (some bs)∧S'.st={ S.st with seq:=S.st.seq+1 }:=by
 obtain⟨D',us',lv1,W',a,hA,rfl⟩:=h
 have hmay:PItem.May ⟨1,b,0,0⟩:=.inl ⟨.inl rfl,by have:=hg.b64;simp only;omega,rfl,rfl⟩
 have hc:=hg.cap.added hk hmay (fun _=>hl) hA
 obtain⟨r1,r2,r3,r4,r5⟩:=hA.reads hg.cap hk hg.now hg.many
 obtain⟨ra,rb⟩:=r5 rfl
 have hK:∀ x,Lies B S.us S.W x→Lies B us' W' x∧ZM B D' W' x=ZM B S.D S.W x:=fun x hx=>⟨(r4 x hx).1,(r4 x hx).2.1⟩
 have hKb:=QV (B:=B) (S:=S) (S':={ S with D:=D',us:=us',W:=W' }) hK hg.brefs
 have hKo:=XV (B:=B) (S:=S) (S':={ S with D:=D',us:=us',W:=W' }) hK hg.orefs
 have h0:a≠0:=by have:=ra.lo;omega
 refine⟨⟨hc,r1,r2.trans hg.many,by simp only;rw[r3];exact hg.flt,by simp only;rw[r3,r2];exact hg.flen,hg.b1,hg.b64,hg.bl,by simpa using hg.ol,hKb.1,?_,by have:=hg.seq;simp only;omega,by have:=hg.epoch;simp only;omega,by have:=hg.done;simp only;omega⟩,hKb.2,?_,rfl⟩
 · intro x hx
   rcases List.mem_or_eq_of_mem_set hx with hx | rfl
   · exact hKo.1 x hx
   · exact .inr (.inr ⟨by omega,by simpa using ra⟩)
 · unfold XZ
   simp only
   rw[List.map_set]
   congr 1
   · exact hKo.2
   · rw[if_neg (by omega)]
     unfold ZN
     rw[if_neg (by omega)]
     simp only[Int.toNat_natCast]
     rw[rb]
theorem Yf (b n:Nat) (l:List Int) (ds:List Bool) (x:Nat):(QM b n l ds).2.1[x]? = if b≤x∧x<b+n∧x<l.length then some 0 else l[x]? := by
 induction n with
 | zero=>rw[if_neg (by omega)];rfl
 | succ n ih=>
   rw[Va]
   have hst:((Qc b (QM b n l ds) n).2.1)=(QM b n l ds).2.1.set (b+n) 0:=rfl
   rw[hst,List.getElem?_set,ih]
   have hlen:=(QT b n l ds).1
   rw[hlen]
   split
   · rename_i e
     subst e
     by_cases hx:b+n<l.length
     · rw[if_pos hx,if_pos (by omega)]
     · rw[if_neg hx,if_neg (by omega),List.getElem?_eq_none (by omega)]
   · rename_i e
     by_cases hx:b≤x∧x<b+n∧x<l.length
     · rw[if_pos hx,if_pos (by omega)]
     · rw[if_neg hx,if_neg (by omega)]
def XAF {α:Type} (l:List α) (b n:Nat) (v:α):List α:=(List.range l.length).map fun x=>if b≤x∧x<b+n then v else l.getD x v
theorem VAG {α:Type} (l:List α) (b n:Nat) (v:α) (x:Nat):(XAF l b n v)[x]? = if b≤x∧x<b+n∧x<l.length then some v else l[x]? := by
 unfold XAF
 rw[List.getElem?_map]
 by_cases hx:x<l.length
 · rw[List.getElem?_range hx]
   simp only[Option.map_some]
   split
   · rw[if_pos (by omega)]
   · rw[if_neg (by omega),List.getD_eq_getElem?_getD,List.getElem?_eq_getElem hx];rfl
 · rw[List.getElem?_eq_none (by simpa using hx),if_neg (by omega),List.getElem?_eq_none (by omega)];rfl
theorem Trimmed.good {B:Nat} {S S':PS} {b n k j:Nat} (h:Trimmed B S b n S') (hg:Good B S k j) (hk:k≤50) (hn:1≤n) (hb:b+n≤B) :
 Good B S' (k+1) (j+1)∧QW B S'=QW B S∧XZ B S'=XAF (XZ B S) b n (some zeros64)∧S'.st={ S.st with seq:=S.st.seq+1 }:=by
 obtain⟨D',us',lv1,W',a,hA,rfl⟩:=h
 have hmay:PItem.May ⟨2,b,n,0⟩:=.inr (.inl ⟨.inl rfl,by have:=hg.b64;simp only;omega,hn,by have:=hg.b64;simp only;omega,rfl⟩)
 have hc:=hg.cap.added hk hmay (fun h=>by cases h) hA
 obtain⟨r1,r2,r3,r4,r5⟩:=hA.reads hg.cap hk hg.now hg.many
 have hK:∀ x,Lies B S.us S.W x→Lies B us' W' x∧ZM B D' W' x=ZM B S.D S.W x:=fun x hx=>⟨(r4 x hx).1,(r4 x hx).2.1⟩
 have hKb:=QV (B:=B) (S:=S) (S':={ S with D:=D',us:=us',W:=W' }) hK hg.brefs
 have hKo:=XV (B:=B) (S:=S) (S':={ S with D:=D',us:=us',W:=W' }) hK hg.orefs
 have hol:=hg.ol
 have hlen:=(QT b n S.I.ol S.I.od).1
 refine⟨⟨hc,r1,r2.trans hg.many,by simp only;rw[r3];exact hg.flt,by simp only;rw[r3,r2];exact hg.flen,hg.b1,hg.b64,hg.bl,by simp only;rw[hlen];exact hol,hKb.1,?_,by have:=hg.seq;simp only;omega,by have:=hg.epoch;simp only;omega,by have:=hg.done;simp only;omega⟩,hKb.2,?_,rfl⟩
 · intro x hx
   obtain⟨i,hi⟩:=List.getElem?_of_mem hx
   rw[Yf] at hi
   split at hi
   · cases hi;exact .inr (.inl rfl)
   · exact hKo.1 x (List.mem_of_getElem? hi)
 · apply List.ext_getElem?
   intro x
   rw[VAG]
   unfold XZ
   simp only[List.getElem?_map,List.length_map]
   rw[Yf]
   split
   · rfl
   · rw[← List.getElem?_map,← List.getElem?_map]
     exact congrArg (·[x]?) hKo.2
end
section
open Go.RowKit
def VAV (base:List (List UInt8)) (over:List (Option (List UInt8))):List (List UInt8):=List.zipWith (fun b o=>o.getD b) base over
theorem Zc {bl ol:List Int} (h:bl.length=ol.length):Xb bl ol ol.length=List.zipWith (fun b o=>if o = -1 then b else o) bl ol:=by
 unfold Xb
 rw[List.take_of_length_le (by simp;omega),List.drop_of_length_le (by omega),List.append_nil]
theorem XY (ol:List Int):Ze ol ol.length=List.replicate ol.length (-1):=by
 unfold Ze
 rw[List.drop_of_length_le (by omega),List.append_nil]
theorem Marked.good {B:Nat} {S S':PS} {e k j:Nat} (h:Marked B S e S') (hg:Good B S k j) (hk:k≤50) (he:1≤e∧e≤j+1) (hj:j≤100000) :
 Good B S' (k+1) (j+2)∧QW B S'=VAV (QW B S) (XZ B S)∧XZ B S'=List.replicate B none∧S'.st={ S.st with epoch:=e,seq:=S.st.seq+1,done:=S.st.seq+1 }:=by
 obtain⟨D1,us1,lv1,W1,a,D2,us2,W2,bd,od,hA,hE,rfl⟩:=h
 have hmay:PItem.May ⟨3,0,0,e⟩:=.inr (.inr (.inl ⟨rfl,rfl,rfl,he.1,by simp only;omega⟩))
 have hc:=hg.cap.added hk hmay (fun h=>by cases h) hA
 obtain⟨r1,r2,r3,r4,r5⟩:=hA.reads hg.cap hk hg.now hg.many
 have hc2:=hc.mark hE 1 (by omega) D2.flush (by show D2.acts+1≤_;omega)
 obtain⟨q1,q2⟩:=hE.reads hc.ok r1 (r2.trans hg.many) hc.seg hc.off
 obtain⟨_,_,_,_,_,_,_,_,_,_,_,f1,_,_,f4⟩:=hE.facts hc.ok
 have hK:∀ x,Lies B S.us S.W x→Lies B us2 W2 x∧ZM B D2.flush W2 x=ZM B S.D S.W x:=by
  intro x hx
  obtain⟨a1,a2,_⟩:=r4 x hx
  obtain⟨b1,b2⟩:=q2 x a1
  exact⟨b1,b2.trans a2⟩
 have hKb:=QV (B:=B) (S:=S) (S':={ S with D:=D2.flush,us:=us2,W:=W2 }) hK hg.brefs
 have hKo:=XV (B:=B) (S:=S) (S':={ S with D:=D2.flush,us:=us2,W:=W2 }) hK hg.orefs
 have hbl:=hg.bl
 have hol:=hg.ol
 have hlen:S.I.bl.length=S.I.ol.length:=by omega
 refine⟨⟨hc2,q1,(f1.trans r2).trans hg.many,?_,?_,hg.b1,hg.b64,?_,?_,?_,?_,by have:=hg.seq;simp only;omega,by simp only;omega,by simp only;omega⟩,?_,?_,rfl⟩
 · show ∀ x∈D2.faults,x=false
   rw[f4,r3];exact hg.flt
 · show D2.faults.length=D2.n
   rw[f4,r3,f1,r2];exact hg.flen
 · simp only;rw[Zc hlen];simp;omega
 · simp only;rw[XY];simp;omega
 · intro x hx
   simp only at hx
   rw[Zc hlen] at hx
   obtain⟨i,hi⟩:=List.getElem?_of_mem hx
   rw[List.getElem?_zipWith] at hi
   split at hi
   · rename_i u v hu hv
     simp only[Option.some.injEq] at hi
     subst hi
     split
     · exact hKb.1 u (List.mem_of_getElem? hu)
     · exact(hKo.1 v (List.mem_of_getElem? hv)).resolve_left (by assumption)
   · cases hi
 · intro x hx
   simp only at hx
   rw[XY] at hx
   exact .inl (List.eq_of_mem_replicate hx)
 · have e1:QW B S=S.I.bl.map (ZN B { S with D:=D2.flush,us:=us2,W:=W2 }):=hKb.2.symm
   have e2:XZ B S=S.I.ol.map (fun a=>if a = -1 then none else some (ZN B { S with D:=D2.flush,us:=us2,W:=W2 } a)):=hKo.2.symm
   rw[e1,e2]
   unfold QW VAV
   simp only
   rw[Zc hlen]
   apply List.ext_getElem?
   intro i
   simp only[List.getElem?_map,List.getElem?_zipWith]
   rcases S.I.bl[i]? with _ | u <;> rcases S.I.ol[i]? with _ | v
   · rfl
   · rfl
   · rfl
   · simp only[Option.map_some,Option.some.injEq]
     split <;> rfl
 · unfold XZ
   simp only
   rw[XY,List.map_replicate,if_pos rfl,hol]
end
section
open Go.RowKit Go.Shelf
section
variable (w:World) (base s d g t p m:Nat) (Fd Ft Fw Fm:List Nat) (L0 L1:Value) (B:Nat) (S:PS) (h:StoreIs w base s d g t p m Fd Ft Fw Fm L0 L1 B S)
include h
theorem ImageS_is:Calls Tryz.prog 17 #[.pointer (some ⟨s,0,none⟩)] w fun e w'=>e=.returned (.pointer (some ⟨m,0,none⟩))∧w=w':=by
 obtain⟨c0,c1,c2,c3,c4,c5,c6,c7,c8,c9,c10,c11,c12,c13,c14,c15,c16,c17⟩:=KH h.blk
 go_enter Tryz.func17,Tryz.ntmps17
 go_wp2
 go_ret
 exact⟨rfl,rfl⟩
theorem DiskS_is:Calls Tryz.prog 63 #[.pointer (some ⟨s,0,none⟩)] w fun e w'=>e=.returned (.pointer (some ⟨d,0,none⟩))∧w=w':=by
 obtain⟨c0,c1,c2,c3,c4,c5,c6,c7,c8,c9,c10,c11,c12,c13,c14,c15,c16,c17⟩:=KH h.blk
 go_enter Tryz.func63,Tryz.ntmps63
 go_wp2
 go_ret
 exact⟨rfl,rfl⟩
theorem BlocksS_is:Calls Tryz.prog 135 #[.pointer (some ⟨m,0,none⟩)] w fun e w'=>e=.returned (.int .i64 (B:Nat))∧w=w':=by
 obtain⟨p1,p2,F1,F2,hi⟩:=h.img
 have:=BlocksI_is w base m p1 p2 Fm F1 F2 S.I hi
 rw[h.blen] at this
 exact this
theorem JAn (b n:Nat) (hn:1≤n) (hb:b+n≤B):Calls Tryz.prog 55 #[.pointer (some ⟨s,0,none⟩),.int .i64 (b:Nat),.int .i64 (n:Nat)] w fun e w'=>e=.returned (.bool true)∧w=w':=by
 have hI:=ImageS_is w base s d g t p m Fd Ft Fw Fm L0 L1 B S h
 have hB:=BlocksS_is w base s d g t p m Fd Ft Fw Fm L0 L1 B S h
 have h64:B≤64:=h.log.geom.few
 have h1:(1:Int)≤(n:Nat):=by omega
 have h2:((n:Nat):Int)≤(B:Nat):=by omega
 have h3:((b:Nat):Int)≤(B:Nat)-(n:Nat):=by omega
 go_enter Tryz.func55,Tryz.ntmps55
 go_wp2_with (first | (refine hI.mono ?_;clear hI;rintro e w' ⟨rfl,rfl⟩) | (refine hB.mono ?_;clear hB;rintro e w' ⟨rfl,rfl⟩))
 go_ret
 exact⟨rfl,rfl⟩
theorem YAL (mode:Nat) (hm:mode=0∨mode=S.st.mode):Calls Tryz.prog 54 #[.pointer (some ⟨s,0,none⟩),.int .i64 (mode:Nat),.bool true] w fun e w'=>e=.returned (.int .i64 0)∧w=w':=by
 obtain⟨c0,c1,c2,c3,c4,c5,c6,c7,c8,c9,c10,c11,c12,c13,c14,c15,c16,c17⟩:=KH h.blk
 have hOf:=KAK w base d Fd S.D h.log.disk
 rw[h.log.off] at hOf
 by_cases h0:mode=0
 · subst h0
   go_enter Tryz.func54,Tryz.ntmps54
   go_wp2_with (refine hOf.mono ?_;clear hOf;rintro e w' ⟨rfl,rfl⟩)
   go_ret
   exact⟨rfl,rfl⟩
 · obtain rfl:=hm.resolve_left h0
   have h0':¬ ((S.st.mode:Nat):Int)=0:=by omega
   go_enter Tryz.func54,Tryz.ntmps54
   go_wp2_with (refine hOf.mono ?_;clear hOf;rintro e w' ⟨rfl,rfl⟩)
   go_ret
   exact⟨rfl,rfl⟩
theorem XAK (a:Nat) (ha:a=0∨(6+4*pgs B≤a∧a<198+4*pgs B)) (A:Option Addr) (n c:Nat) (zs:List Int) (hz:Rd w A n (VS zs)) (hr:∀ z∈zs,z≤0∨(6+4*pgs B≤z.toNat∧z.toNat<198+4*pgs B)) (hn:n≤1000) (hA:∀ x,A=some x→x.block∉Ft) :
 Calls Tryz.prog 58 #[.pointer (some ⟨s,0,none⟩),.int .i64 (a:Nat),.slice A n c] w fun e w'=>e=.returned (.tuple #[])∧StoreIs w' base s d g t p m Fd Ft Fw Fm L0 L1 B { S with lv:=Za B S.lv a zs }∧Keep Ft w w':=by
 have hzl:zs.length=n:=by simpa using hz.1
 have hsF:s∉Ft:=fun hm=>h.aps (by simp[hm])
 have hgF:g∉Ft:=h.log.gt
 have hfst:Calls Tryz.prog 48 #[.pointer (some ⟨t,0,none⟩),.int .i64 (a:Nat),.int .i64 1] w fun e w'=>∃ b,e=.returned (.bool b)∧TableAt w' base t g Ft S.us (Za B S.lv a [])∧Keep Ft w w':=by
  rcases ha with rfl | ⟨h1,h2⟩
  · refine(KAy w base t g Ft S.us S.lv h.log.tab B h.log.geom 1).mono ?_
    rintro e w' ⟨rfl,hk⟩
    exact⟨_,rfl,h.log.tab.keep0 hk,hk.zero⟩
  · refine(JAG w base t g Ft S.us S.lv h.log.tab B h.log.geom a h1 h2 1 (.inl rfl)).mono ?_
    rintro e w' ⟨rfl,ht,hk⟩
    refine⟨_,rfl,?_,hk⟩
    unfold Za
    rw[if_neg (by omega)]
    exact ht
 have hfin:∀ w' lv',TableAt w' base t g Ft S.us lv'→Keep Ft w w'→StoreIs w' base s d g t p m Fd Ft Fw Fm L0 L1 B { S with lv:=lv' }:=fun w' lv' ht hk=>(h.setLog (h.log.setTab ht hk) (hk.sub (fun x hx=>by simp[hx])) (Grow.refl _ _) (Grow.refl _ _)).1
 have hblk:=h.blk
 have hgeo:=h.log.geom
 obtain⟨c0,c1,c2,c3,c4,c5,c6,c7,c8,c9,c10,c11,c12,c13,c14,c15,c16,c17⟩:=KH hblk
 clear h
 have HZL:=ZB hzl
 clear hzl
 go_enter Tryz.func58,Tryz.ntmps58
 go_wp2_with (refine hfst.mono ?_;clear hfst;rintro e w1 ⟨b,rfl,ht1,hk1⟩)
 clear c0 c1 c2 c3 c4 c5 c6 c7 c8 c9 c10 c11 c12 c13 c14 c15 c16 c17
 go_loopw [16] (fun i wr=>∃ j:Nat,j≤n∧i=.int .i64 (j:Nat)∧TableAt wr base t g Ft S.us (Za B S.lv a (zs.take j))∧Keep Ft w wr) (fun i _=>n-(intOf i).toNat)
 case atStart=>exact⟨0,Nat.zero_le _,rfl,by simpa using ht1,hk1⟩
 case round=>
  obtain⟨j,hj,rfl,htj,hkj⟩:=hrel
  by_cases hjn:j<n
  · have hjl:j<zs.length:=by rw[QA HZL];exact hjn
    obtain⟨ab,ao,u,rfl,hu,hab,hcell⟩:=(hz.keepIf hkj hA).at_ hjn
    have hzx:zs[j]? = some zs[j]:=List.getElem?_eq_getElem hjl
    simp only[VS,i64,List.getElem?_map,hzx,Option.map_some,Option.some.injEq] at hu
    have hzr:=hr zs[j] (List.getElem_mem _)
    have hsn:Za B S.lv a (zs.take (j+1))=if 0<zs[j] then YH (Za B S.lv a (zs.take j)) ((zs[j].toNat-(6+4*pgs B)) / 24) (-1) else Za B S.lv a (zs.take j):=by
     unfold Za
     rw[List.take_succ_eq_append_getElem hjl,List.foldl_append]
     rfl
    obtain⟨c0,c1,c2,c3,c4,c5,c6,c7,c8,c9,c10,c11,c12,c13,c14,c15,c16,c17⟩:=KH (hblk.keep hkj hsF)
    subst hu
    have HSN:=ZB hsn
    clear hsn hzx
    generalize zs[j]=z at *
    by_cases hz0:0<z
    · have hz1:=hzr.resolve_left (by omega)
      have hAd:=JAG wr base t g Ft S.us _ htj B (hgeo.keep hkj hgF) z.toNat hz1.1 hz1.2 (-1) (.inr rfl)
      rw[show ((z.toNat:Nat):Int)=z by omega] at hAd
      go_wp2_with (refine hAd.mono ?_;clear hAd;rintro e w2 ⟨rfl,ht2,hk2⟩)
      go_roundw
      case rel=>exact⟨j+1,by omega,by go_num,by rw[QA HSN,if_pos hz0];exact ht2,hkj.trans hk2 (fun x hx=>.inl hx)⟩
      case measure=>simp[intOf];omega
    · go_wp2_with fail
      go_roundw
      case rel=>exact⟨j+1,by omega,by go_num,by rw[QA HSN,if_neg hz0];exact htj,hkj⟩
      case measure=>simp[intOf];omega
  · obtain rfl:j=n:=by omega
    go_wp2_with fail
    refine bodyPost_end (v:=.tuple #[]) (by simp[results,Tryz.results58,go_sem]) rfl ?_
    rw[List.take_of_length_le (by rw[QA HZL];exact Nat.le_refl _)] at htj
    exact⟨rfl,hfin _ _ htj hkj,hkj⟩
theorem JAc (ho:S.W.Ok) (ha:S.D.acts≤1000000) (hlsn:S.W.pos.lsn<2147483647) :
 Calls Tryz.prog 59 #[.pointer (some ⟨s,0,none⟩)] w fun e w'=>e=.returned (.int .i64 0)∧∃ Fd' Fw' D2 us2 W2,StoreIs w' base s d g t p m Fd' Ft Fw' Fm L0 L1 B { S with D:=D2.flush,us:=us2,W:=W2 }∧Emitted B S.D S.us S.W D2 us2 W2 ∧
  Keep (Fd++(Ft++Fw)) w w'∧Grow w Fd Fd'∧Grow w Fw Fw':=by
 have hE:=ZAF w base d g t p Fd Ft Fw B S.D S.us S.lv S.W h.log ho ha hlsn
 have hblk:=h.blk
 have hsn:s∉Fd++(Ft++Fw):=fun hm=>h.aps (by simp only[List.mem_cons,List.mem_append] at hm ⊢;rcases hm with hm | hm | hm <;> simp[hm])
 obtain⟨c0,c1,c2,c3,c4,c5,c6,c7,c8,c9,c10,c11,c12,c13,c14,c15,c16,c17⟩:=KH hblk
 go_enter Tryz.func59,Tryz.ntmps59
 go_wp2_with (first
  | (go_at_call 99
     refine hE.mono ?_
     clear hE c0 c1 c2 c3 c4 c5 c6 c7 c8 c9 c10 c11 c12 c13 c14 c15 c16 c17
     rintro e w1 ⟨rfl,Fd1,Fw1,D1,us1,W1,h1,hE1,hk1,hg1,hgw1⟩
     obtain⟨c0,c1,c2,c3,c4,c5,c6,c7,c8,c9,c10,c11,c12,c13,c14,c15,c16,c17⟩:=KH (hblk.keep hk1 hsn)
     have hf:=hE1.facts ho
     have hFl:=QAI w1 base d Fd1 D1 h1.disk h1.off h1.fuse (by have:=hf.2.2.2.2.2.2.2.2.1;omega) h1.le)
  | (go_at_call 101
     refine hFl.mono ?_
     clear hFl
     rintro e w2 ⟨rfl,Fd2,hD2,hk2,hg2⟩))
 go_ret
 have h2:=h1.setDisk hD2 hk2 hg2 rfl rfl rfl
 have hkk:Keep (Fd++(Ft++Fw)) w w2:=hk1.trans hk2 (fun x hx=>(hg1 x hx).imp (fun h=>by simp[h]) id)
 obtain⟨hS,_⟩:=h.setLog h2 hkk (hg1.trans hk1.size hg2) hgw1
 exact⟨rfl,Fd2,Fw1,D1,us1,W1,hS,hE1,hkk,hg1.trans hk1.size hg2,hgw1⟩
end
end
section
open Go.RowKit Go.Shelf
theorem Kr {B:Nat} {S:PS} {x z:Int} (h:x = -1∨RefOk B S x):YF x z≤0∨(6+4*pgs B≤(YF x z).toNat∧(YF x z).toNat<198+4*pgs B):=by
 unfold YF
 split
 · exact .inl (Int.le_refl _)
 · rcases h with rfl | rfl | ⟨h0,hl⟩
   · exact .inl (by omega)
   · exact .inl (by omega)
   · right
     rw[show max x 0=x by omega]
     exact⟨hl.lo,hl.hi⟩
theorem QAk {l:List Int} {i:Nat} (h:i<l.length):l.getD i 0∈l:=by
 rw[List.getD_eq_getElem?_getD,List.getElem?_eq_getElem h]
 exact List.getElem_mem h
theorem Good.room {B:Nat} {S:PS} {k j:Nat} (hg:Good B S k j) (hk:k≤50) {m:Nat} (hm:m≤1) (spare:Bool):KAj S.us S.W m spare:=by
 intro _ hf
 have hfree:=hg.cap.free hk hm hf
 obtain⟨g1,g2⟩:=ZO S.us (by omega)
 exact⟨by have:=hg.cap.ul;omega,g2,fun _=>hfree⟩
theorem ZBE {s g:Nat} {Fd Ft Fw Fm:List Nat} {L0 L1:Value} {l:List Nat} (h:∀ x∈l,x=s∨x∈Fd∨x∈Ft∨x∈Fw∨x∈Fm):∀ x∈l,x∈XO s g Fd Ft Fw Fm L0 L1:=fun x hx=>by
 simp only[XO,List.mem_cons,List.mem_append]
 rcases h x hx with h | h | h | h | h <;> simp[h]
theorem VAY (w:World) (base s d:Nat) (F:List Nat) (B:Nat) (S:PS) (h:StoreAt w base s d F B S) (k j:Nat) (hg:Good B S k j) (hk:k≤50) (hj:j≤20000) (hm:S.st.mode=1) (b:Nat) (hb:b<B) (A:Option Addr) (c:Nat) (bs:List UInt8) (hr:Rd w A 64 (bys bs)) (hA:∀ x,A=some x→x.block∉F) :
 Calls Tryz.prog 12 #[.pointer (some ⟨s,0,none⟩),.int .i64 (b:Nat),.slice A 64 c] w fun e w'=>e=.returned (.int .i64 0)∧∃ F' S',StoreAt w' base s d F' B S'∧Wrote B S b bs S'∧Keep F w w'∧Grow w F F':=by
 obtain⟨g,t,p,m,Fd,Ft,Fw,Fm,L0,L1,h,rfl⟩:=h
 have hbl:bs.length=64:=by simpa using hr.1
 have hH:=JAn w base s d g t p m Fd Ft Fw Fm L0 L1 B S h b 1 (by omega) (by omega)
 have hQ:=YAL w base s d g t p m Fd Ft Fw Fm L0 L1 B S h 1 (.inr hm.symm)
 have hmay:PItem.May ⟨1,b,0,0⟩:=.inl ⟨.inl rfl,by have:=hg.b64;simp only;omega,rfl,rfl⟩
 have hacts:=hg.cap.acts
 have hlsn:=hg.cap.lsn
 have hAd:=XAs w base d g t p Fd Ft Fw B S.D S.us S.lv S.W h.log hg.cap.ok hg.cap.off false (by omega) (by omega) hg.cap.opn ⟨1,b,0,0⟩ hmay (by simp) (hg.room hk (by unfold ZV;split <;> omega) false) A c bs (by simpa [ZV,PItem.loaded] using hr) (fun x hx hm=>hA x hx (ZBE (by intro y hy;simp only[List.mem_append] at hy;rcases hy with h | h | h <;> simp[h]) _ hm))
 rw[show 64*ZV ⟨1,b,0,0⟩=64 by simp[ZV,PItem.loaded]] at hAd
 simp only[itc] at hAd
 have hblk:=h.blk
 have hseq:S.st.seq≤20000:=by have:=hg.seq;omega
 have hsn:s∉Fd++(Ft++Fw):=fun hm=>h.aps (by simp only[List.mem_cons,List.mem_append] at hm ⊢;rcases hm with hm | hm | hm <;> simp[hm])
 obtain⟨c0,c1,c2,c3,c4,c5,c6,c7,c8,c9,c10,c11,c12,c13,c14,c15,c16,c17⟩:=KH hblk
 go_enter Tryz.func12,Tryz.ntmps12
 go_wp2_with (first
  | (go_at_call 55
     refine hH.mono ?_
     clear hH
     rintro e w' ⟨rfl,rfl⟩)
  | (go_at_call 54
     refine hQ.mono ?_
     clear hQ
     rintro e w' ⟨rfl,rfl⟩)
  | (go_at_call 56
     refine hAd.mono ?_
     clear hAd c0 c1 c2 c3 c4 c5 c6 c7 c8 c9 c10 c11 c12 c13 c14 c15 c16 c17
     rintro e w1 ⟨a,rfl,Fd1,Fw1,D1,us1,lv1,W1,h1,hA1,hk1,hg1,hgw1⟩
     have hblk1:=hblk.keep hk1 hsn
     have f8:=hblk1.frozen 8
     obtain⟨c0,c1,c2,c3,c4,c5,c6,c7,c8,c9,c10,c11,c12,c13,c14,c15,c16,c17⟩:=KH hblk1))
 obtain⟨hI1,hG1⟩:=h.setLog h1 hk1 hg1 hgw1
 have hks:Keep [s] w1 (w1.setCell ⟨s,8,none⟩ (.int .i64 ((S.st.seq:Nat)+1))):=(Keep.refl _ _).setCell (p:=⟨s,8,none⟩) (.inl (by simp)) _
 have hbz:=hblk1.set 8 (.int .i64 ((S.st.seq:Nat)+1))
 have hI2:=hI1.setSt { S.st with seq:=S.st.seq+1 } (by simpa using hbz) hks
 obtain⟨_,_,_,_,hAr⟩:=hA1.reads hg.cap hk hg.now hg.many
 obtain⟨hAr,_⟩:=hAr rfl
 have hal:=hAr.lo
 have hah:=hAr.hi
 have hp5:=(KC h.log.geom.pos h.log.geom.few).2
 have hW:=YAg _ base m Fm S.I hI2.img b a (by rw[h.blen];exact hb) (by omega)
 have hgo:=Kr (z:=(a:Nat)) (hg.orefs (S.I.ol.getD b 0) (QAk (by rw[hg.ol];exact hb)))
 obtain⟨gone,hgone⟩:∃ z,z=YF (S.I.ol.getD b 0) a:=⟨_,rfl⟩
 rw[← hgone] at hW hgo
 have HGO:=ZB hgone
 clear hgone
 generalize w1.setCell ⟨s,8,none⟩ (.int .i64 ((S.st.seq:Nat)+1))=w2 at *
 have hmF:s∉Fm:=fun hm=>h.aps (by simp[hm])
 have hblk2:=hI2.blk
 clear c0 c1 c2 c3 c4 c5 c6 c7 c8 c9 c10 c11 c12 c13 c14 c15 c16 c17
 go_wp2_with (first
  | (go_at_call 57
     refine hW.mono ?_
     clear hW
     rintro e w3 ⟨rfl,hi3,hk3⟩))
 have hI3:=hI2.setImg hi3 (by simp) hk3
 have hkB:Keep [] w3 (w3.alloc (.cells #[.int .i64 gone] 3)):=(Keep.refl _ _).alloc _
 have hrd:=KO w3 (.int .i64 gone) 3
 have hlt3:∀ x∈Ft,x<w3.heap.size:=fun x hx=>hI3.log.tab.lt x hx
 have hLv:=XAK _ base s d g t p m Fd1 Ft Fw1 Fm L0 L1 B _ (hI3.keep0 hkB) a (.inr ⟨hal,hah⟩) _ 1 1 [gone] hrd (by simpa using hgo) (by omega) (fun x hx hm=>by cases hx;have:=hlt3 _ hm;simp at this)
 go_wp2_with (refine hLv.mono ?_;clear hLv;rintro e w4 ⟨rfl,hI4,hk4⟩)
 go_ret
 have hsub:∀ {l:List Nat} {u v:World},(∀ x∈l,x=s∨x∈Fd∨x∈Ft∨x∈Fw∨x∈Fm)→Keep l u v→Keep (XO s g Fd Ft Fw Fm L0 L1) u v:=fun hl hk=>hk.sub (ZBE hl)
 have K1:=hsub (by intro x hx;simp only[List.mem_append] at hx;rcases hx with h | h | h <;> simp[h]) hk1
 have K2:=K1.trans (hsub (by intro x hx;simp at hx;simp[hx]) hks) (fun x hx=>.inl hx)
 have K3:=K2.trans (hsub (by intro x hx;simp[hx]) hk3) (fun x hx=>.inl hx)
 have K4:=(K3.trans0 hkB).trans (hsub (by intro x hx;simp[hx]) hk4) (fun x hx=>.inl hx)
 refine⟨rfl,_,_,⟨g,t,p,m,Fd1,Ft,Fw1,Fm,L0,L1,hI4,rfl⟩,⟨D1,us1,lv1,W1,a,hA1,?_⟩,K4,hG1⟩
 rw[← QA HGO]
end
section
open Go.RowKit Go.Shelf
theorem JAY {B:Nat} {S:PS} (bl ol:List Int) (k:Nat) (h:∀ x∈bl,RefOk B S x):∀ x∈Zp bl ol k,x≤0∨(6+4*pgs B≤x.toNat∧x.toNat<198+4*pgs B):=by
 intro x hx
 unfold Zp at hx
 obtain⟨p,hp,hx⟩:=List.mem_flatMap.1 hx
 have hp1:p.1∈bl:=(List.of_mem_zip (List.mem_of_mem_take hp)).1
 split at hx
 · cases hx
 · split at hx
   · simp only[List.mem_singleton] at hx
     subst hx
     exact Kr (.inr (h _ hp1))
   · cases hx
end
section
open Go.RowKit Go.Shelf
theorem VAo (w:World) (base s d:Nat) (F:List Nat) (B:Nat) (S:PS) (h:StoreAt w base s d F B S) (k j:Nat) (hg:Good B S k j) (hk:k≤50) (hj:j≤20000) (hm:S.st.mode=1) (e:Nat) (he:e=S.st.epoch+1) :
 Calls Tryz.prog 14 #[.pointer (some ⟨s,0,none⟩),.int .i64 (e:Nat)] w fun r w'=>r=.returned (.int .i64 0)∧∃ F' S',StoreAt w' base s d F' B S'∧Marked B S e S'∧Keep F w w'∧Grow w F F':=by
 obtain⟨g,t,p,m,Fd,Ft,Fw,Fm,L0,L1,h,rfl⟩:=h
 have hQ:=YAL w base s d g t p m Fd Ft Fw Fm L0 L1 B S h 1 (.inr hm.symm)
 have heb:S.st.epoch≤20000:=by have:=hg.epoch;omega
 have hmay:PItem.May ⟨3,0,0,e⟩:=.inr (.inr (.inl ⟨rfl,rfl,rfl,by simp only;omega,by simp only;omega⟩))
 have hacts:=hg.cap.acts
 have hlsn:=hg.cap.lsn
 have hAd:=XAs w base d g t p Fd Ft Fw B S.D S.us S.lv S.W h.log hg.cap.ok hg.cap.off false (by omega) (by omega) hg.cap.opn ⟨3,0,0,e⟩ hmay (by simp) (hg.room hk (by unfold ZV;split <;> omega) false) none 0 [] (by rw[show 64*ZV ⟨3,0,0,e⟩=0 by simp[ZV,PItem.loaded]];exact Rd.nil w none) (fun x hx=>by cases hx)
 rw[show 64*ZV ⟨3,0,0,e⟩=0 by simp[ZV,PItem.loaded]] at hAd
 simp only[itc] at hAd
 have hblk:=h.blk
 have hseq:S.st.seq≤20000:=by have:=hg.seq;omega
 have hsn:s∉Fd++(Ft++Fw):=fun hm=>h.aps (by simp only[List.mem_cons,List.mem_append] at hm ⊢;rcases hm with hm | hm | hm <;> simp[hm])
 obtain⟨c0,c1,c2,c3,c4,c5,c6,c7,c8,c9,c10,c11,c12,c13,c14,c15,c16,c17⟩:=KH hblk
 have heI:((e:Nat):Int)=(S.st.epoch:Nat)+1:=by omega
 have HE:=ZB he
 clear he
 go_enter Tryz.func14,Tryz.ntmps14
 go_wp2_with (first
  | (go_at_call 54
     refine hQ.mono ?_
     clear hQ heI
     rintro r w' ⟨rfl,rfl⟩)
  | (go_at_call 56
     refine hAd.mono ?_
     clear hAd c0 c1 c2 c3 c4 c5 c6 c7 c8 c9 c10 c11 c12 c13 c14 c15 c16 c17
     rintro r w1 ⟨a,rfl,Fd1,Fw1,D1,us1,lv1,W1,h1,hA1,hk1,hg1,hgw1⟩
     obtain⟨hI1,hG1⟩:=h.setLog h1 hk1 hg1 hgw1
     have hc1:=hg.cap.added hk hmay (fun h=>by cases h) hA1
     have hLs:=JAc w1 base s d g t p m Fd1 Ft Fw1 Fm L0 L1 B _ hI1 hc1.ok (by have:=hc1.acts;simp only;omega) (by have:=hc1.lsn;simp only;omega))
  | (go_at_call 59
     refine hLs.mono ?_
     clear hLs
     rintro r w2 ⟨rfl,Fd2,Fw2,D2,us2,W2,hI2,hE2,hk2,hg2,hgw2⟩
     have hblk2:=hI2.blk
     have f7:=hblk2.frozen 7
     have f8:=hblk2.frozen 8
     have f9:=hblk2.frozen 9
     simp only at hblk2
     obtain⟨c0,c1,c2,c3,c4,c5,c6,c7,c8,c9,c10,c11,c12,c13,c14,c15,c16,c17⟩:=KH hblk2))
 have hks:Keep [s] w2 (((w2.setCell ⟨s,7,none⟩ (.int .i64 (e:Nat))).setCell ⟨s,8,none⟩ (.int .i64 ((S.st.seq:Nat)+1))).setCell ⟨s,9,none⟩ (.int .i64 ((S.st.seq:Nat)+1))):=
  (((Keep.refl [s] w2).setCell (p:=⟨s,7,none⟩) (.inl (by simp)) _).setCell (p:=⟨s,8,none⟩) (.inl (by simp)) _).setCell (p:=⟨s,9,none⟩) (.inl (by simp)) _
 have hbz:=((hblk2.set 7 (.int .i64 (e:Nat))).set 8 (.int .i64 ((S.st.seq:Nat)+1))).set 9 (.int .i64 ((S.st.seq:Nat)+1))
 have hI3:=hI2.setSt { S.st with epoch:=e,seq:=S.st.seq+1,done:=S.st.seq+1 } (by simpa using hbz) hks
 have hCm:=XAc _ base m Fm S.I hI3.img
 have hgo:=JAY (B:=B) (S:=S) S.I.bl S.I.ol S.I.ol.length hg.brefs
 have hgl:=Qm S.I.bl S.I.ol S.I.ol.length
 have hol:=hg.ol
 have hb64:=hg.b64
 have hbl:=hg.bl
 have hcl:(Xb S.I.bl S.I.ol S.I.ol.length).length=S.I.bl.length:=Qa (by omega) (by omega)
 obtain⟨gs,hgs⟩:∃ z,z=Zp S.I.bl S.I.ol S.I.ol.length:=⟨_,rfl⟩
 rw[← hgs] at hCm hgo hgl
 have HGO:=ZB hgs
 clear hgs
 generalize ((w2.setCell ⟨s,7,none⟩ (.int .i64 (e:Nat))).setCell ⟨s,8,none⟩ (.int .i64 ((S.st.seq:Nat)+1))).setCell ⟨s,9,none⟩ (.int .i64 ((S.st.seq:Nat)+1))=w3 at *
 have hblk3:=hI3.blk
 clear c0 c1 c2 c3 c4 c5 c6 c7 c8 c9 c10 c11 c12 c13 c14 c15 c16 c17
 go_wp2_with (first
  | (go_at_call 60
     refine hCm.mono ?_
     clear hCm
     rintro r w4 ⟨G,bd,od,rfl,hG,hi4,hk4⟩
     obtain⟨GA,gc,rfl,_⟩:=QB hG))
 have hI4:=hI3.setImg hi4 (by simpa using hcl) hk4
 have hlt4:∀ x∈Ft,x<w3.heap.size:=fun x hx=>hI3.log.tab.lt x hx
 have hLv:=XAK _ base s d g t p m Fd2 Ft Fw2 Fm L0 L1 B _ hI4 0 (.inl rfl) GA gs.length gc gs (Rd.of_own hG) hgo (by omega) (fun x hx hm=>by
  subst hx
  obtain⟨h1,h2⟩ | ⟨gb,cap,cur,e,h1,_⟩:=hG.2
  · cases h1
  · injection e with e _ _
    injection e with e
    subst e
    have:=hlt4 _ hm
    simp at this;omega)
 go_wp2_with (refine hLv.mono ?_;clear hLv;rintro r w5 ⟨rfl,hI5,hk5⟩)
 go_ret
 have hsub:∀ {l:List Nat} {u v:World},(∀ x∈l,x=s∨x∈Fd∨x∈Ft∨x∈Fw∨x∈Fm)→Keep l u v→Keep (XO s g Fd Ft Fw Fm L0 L1) u v:=fun hl hk=>hk.sub (ZBE hl)
 have hGG:=(h.setLog h1 hk1 hg1 hgw1).2
 obtain⟨_,hG2⟩:=hI1.setLog (hI2.log) hk2 hg2 hgw2
 have K1:=hsub (by intro x hx;simp only[List.mem_append] at hx;rcases hx with h | h | h <;> simp[h]) hk1
 have K2:=K1.trans hk2 (fun x hx=>hGG x (ZBE (by intro y hy;simp only[List.mem_append] at hy;rcases hy with h | h | h <;> simp[h]) x hx))
 have K3:=K2.trans (hsub (by intro x hx;simp at hx;simp[hx]) hks) (fun x hx=>.inl hx)
 have K4:=K3.trans (hsub (by intro x hx;simp[hx]) hk4) (fun x hx=>.inl hx)
 have K5:=K4.trans (hsub (by intro x hx;simp[hx]) hk5) (fun x hx=>.inl hx)
 refine⟨rfl,_,_,⟨g,t,p,m,Fd2,Ft,Fw2,Fm,L0,L1,hI5,rfl⟩,⟨D1,us1,lv1,W1,a,D2,us2,W2,bd,od,hA1,hE2,?_⟩,K5,hGG.trans hk1.size hG2⟩
 rw[← QA HGO]
end
section
open Go.RowKit Go.Shelf
section
variable (w:World) (base s d:Nat) (F:List Nat) (B:Nat) (S:PS) (h:StoreAt w base s d F B S)
include h
end
theorem VAf (w:World) (base m:Nat) (F:List Nat) (I:PImage) (h:ImageAt w base m F I) (b:Nat) (hb:b<I.bl.length) :
 Calls Tryz.prog 108 #[.pointer (some ⟨m,0,none⟩),.int .i64 (b:Nat)] w fun e w'=>e=.returned (.tuple #[.int .i64 I.bl[b],.bool true])∧w=w':=by
 obtain⟨p1,p2,F1,F2,h⟩:=h
 have hT:=XU w base m p1 p2 F F1 F2 I h false
 have hG:=Jn w base p1 F1 I.bl I.bd h.b b hb
 simp only[Bool.false_eq_true,if_false] at hT
 go_enter Tryz.func108,Tryz.ntmps108
 go_wp2_with (first
  | (go_at_call 141;refine hT.mono ?_;clear hT;rintro e w' ⟨rfl,rfl⟩)
  | (refine hG.mono ?_;clear hG;rintro e w' ⟨rfl,rfl⟩))
 go_ret2
 exact⟨rfl,rfl⟩
def Xl (I:PImage) (b:Nat):Int:=if I.ol.getD b 0 = -1 then I.bl.getD b 0 else I.ol.getD b 0
theorem ZAq (w:World) (base m:Nat) (F:List Nat) (I:PImage) (h:ImageAt w base m F I) (b:Nat) (hb:b<I.bl.length) (ho:b<I.ol.length) :
 Calls Tryz.prog 110 #[.pointer (some ⟨m,0,none⟩),.int .i64 (b:Nat)] w fun e w'=>e=.returned (.tuple #[.int .i64 (Xl I b),.bool true])∧w=w':=by
 have hR:=VAf w base m F I h b hb
 obtain⟨p1,p2,F1,F2,h⟩:=h
 have hT:=XU w base m p1 p2 F F1 F2 I h true
 have hG:=Jn w base p2 F2 I.ol I.od h.o b ho
 simp only[if_true] at hT
 have hlk:Xl I b=if I.ol[b] = -1 then I.bl[b] else I.ol[b]:=by unfold Xl;rw[Xm ho,Xm hb]
 rw[hlk]
 clear hlk h
 generalize I.ol[b]=o at *
 generalize I.bl[b]=bb at *
 by_cases ho1:o = -1
 · subst ho1
   rw[if_pos rfl]
   go_enter Tryz.func110,Tryz.ntmps110
   go_wp2_with (first
    | (go_at_call 141;refine hT.mono ?_;clear hT;rintro e w' ⟨rfl,rfl⟩)
    | (go_at_call 108;refine hR.mono ?_;clear hR;rintro e w' ⟨rfl,rfl⟩)
    | (refine hG.mono ?_;clear hG;rintro e w' ⟨rfl,rfl⟩))
   go_ret2
   exact⟨rfl,rfl⟩
 · rw[if_neg ho1]
   have ho2:(o == -1)=false:=by simpa using ho1
   go_enter Tryz.func110,Tryz.ntmps110
   go_wp2_with (first
    | (go_at_call 141;refine hT.mono ?_;clear hT;rintro e w' ⟨rfl,rfl⟩)
    | (refine hG.mono ?_;clear hG;rintro e w' ⟨rfl,rfl⟩))
   go_ret2
   exact⟨rfl,rfl⟩
section
variable (w:World) (base s d:Nat) (F:List Nat) (B:Nat) (S:PS) (h:StoreAt w base s d F B S)
include h
end
end
section
open Go.RowKit Go.Shelf
attribute [local go_sem] Oper.semAt_some
def VP (I:PImage) (b:Nat) (at':Nat):Bool:=decide (I.bl.getD b 0=(at':Int)) || decide (Xl I b=(at':Int))
def blc (x:Nat×Nat):List Value:=[.int .i64 x.1,.int .i64 x.2]
def YL (I:PImage) (a:Nat):List PItem→List (Nat×Nat)
 | []=>[]
 | i :: is=>if i.loaded then (if VP I i.b (a+1) then [(i.b,a+1)] else [])++YL I (a+1) is else YL I a is
theorem ZAD (I:PImage) (a:Nat) (is:List PItem) (i:PItem) :
 YL I a (is++[i])=YL I a is++(if i.loaded then (if VP I i.b (a+YE is+1) then [(i.b,a+YE is+1)] else []) else []):=by
 induction is generalizing a with
 | nil=>cases hi:i.loaded <;> cases hc:VP I i.b (a+1) <;> simp[YL,YE,hi,hc]
 | cons j is ih=>
   have hl:YE (j :: is)=YE is+if j.loaded then 1 else 0:=by
    unfold YE
    cases h:j.loaded <;> simp[h]
   cases hj:j.loaded
   · simp only[List.cons_append,YL,hj,Bool.false_eq_true,if_false] at hl ⊢
     rw[ih,hl]
     rfl
   · simp only[List.cons_append,YL,hj,if_true] at hl ⊢
     rw[ih,hl,List.append_assoc,show a+1+YE is=a+(YE is+1) by omega]
theorem KAS (I:PImage) (a:Nat) (is:List PItem):(YL I a is).length≤is.length:=by
 induction is generalizing a with
 | nil=>simp[YL]
 | cons j is ih=>
   simp only[YL]
   cases j.loaded
   · simp only[Bool.false_eq_true,if_false,List.length_cons];have:=ih a;omega
   · simp only[if_true,List.length_append,List.length_cons]
     have:=ih (a+1)
     split <;> simp <;> omega
def VK (I:PImage) (B:Nat):List (PPos×PRec)→List (Nat×Nat)
 | []=>[]
 | x :: L=>YL I (YB B x.1.seg+x.1.off) x.2.items++VK I B L
theorem JAA (I:PImage) (B:Nat) (L:List (PPos×PRec)) (x:PPos×PRec):VK I B (L++[x])=VK I B L++YL I (YB B x.1.seg+x.1.off) x.2.items:=by
 induction L with
 | nil=>simp[VK]
 | cons y L ih=>simp only[List.cons_append,VK,ih,List.append_assoc]
theorem elemTold:ElemN Tryz.prog 162 135 (.agg #[.int .i64 0,.int .i64 0]) 2 16:=ElemN.of Tryz.underlying162 (by kernel_rfl) rfl (by omega)
theorem Xq (w:World) (base m:Nat) (F:List Nat) (I:PImage) (h:ImageAt w base m F I) (b at':Nat) (hb:b<I.bl.length) :
 Calls Tryz.prog 175 #[.pointer (some ⟨m,0,none⟩),.int .i64 (b:Nat),.int .i64 (at':Nat)] w fun e w'=>e=.returned (.bool (VP I b at'))∧w=w':=by
 have ho:b<I.ol.length:=by rw[← h.ok.1];exact hb
 have hR:=VAf w base m F I h b hb
 have hL:=ZAq w base m F I h b hb ho
 have hc:VP I b at'=(decide (I.bl[b]=(at':Int)) || decide (Xl I b=(at':Int))):=by unfold VP;rw[Xm hb]
 rw[hc]
 clear hc h ho
 generalize I.bl[b]=x at *
 generalize Xl I b=y at *
 go_enter Tryz.func175,Tryz.ntmps175
 go_wp2_with (first
  | (refine hR.mono ?_;clear hR;rintro e w' ⟨rfl,rfl⟩)
  | (refine hL.mono ?_;clear hL;rintro e w' ⟨rfl,rfl⟩))
 all_goals
  go_ret
  exact⟨XK (by rw[Bool.eq_iff_iff];simp[*]),rfl⟩
end
end Go.Proofs.YthgphmfipnjllaaGreat
