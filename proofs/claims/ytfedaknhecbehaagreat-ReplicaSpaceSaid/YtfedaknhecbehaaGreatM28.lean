/- Lemmas of the proof, with their conditions. -/
import Derived.Test.YtfedaknhecbehaaGreatM20
import Derived.Test.YtfedaknhecbehaaGreatM27
import Derived.Test.YtfedaknhecbehaaGreatM07
namespace Go.Proofs.YtfedaknhecbehaaGreat
open Tryz Go.RowKit Go.Shelf
variable {a:Int} {b k j n e i len:Nat} {bs:List UInt8} {sl:List PSlot} {q:PSlot} {ops:Nat->POp} {th:List Bool} {A:Option Addr} {zs:List (Int×Int×Int)} {us:List (Nat×Nat)} {W:PW}
set_option linter.all false
set_option maxHeartbeats 2000000
set_option maxRecDepth 20000
structure PSt where
 mode:Nat
 view:Nat
 epoch:Nat
 seq:Nat
 done:Nat
 mount:Nat
 gen:Nat
structure PS where
 D:PDisk
 us:List (Nat×Nat)
 lv:List Nat
 W:PW
 I:PImage
 st:PSt
 slot:Nat
 lie0:List Nat
 lie1:List Nat
def PSt.cs (s:PSt):List Value:=[.int .i64 s.mode,.int .i64 s.view,.int .i64 s.epoch,.int .i64 s.seq,.int .i64 s.done,.int .i64 s.mount,.int .i64 s.gen]
structure StoreIs (w:World) (base s d g t p m:Nat) (Fd Ft Fw Fm:List Nat) (L0 L1:Value) (B:Nat) (S:PS):Prop where
 blk:Blk w s 146 #[pq d,pq g,pq t,pq m,pq p,
  .int .i64 S.st.mode,ii S.st.view,ii S.st.epoch,ii S.st.seq,ii S.st.done,ii S.st.mount,ii S.st.gen,zz,zz,zz,ii S.slot,L0,L1]
 log:LogIs w base d g t p Fd Ft Fw B S.D S.us S.lv S.W
 img:ImageAt w base m Fm S.I
 blen:S.I.bl.length=B
 l0:w.ownsRow base 3 1 L0 (pgs B) (XP S.lie0)
 l1:w.ownsRow base 3 1 L1 (pgs B) (XP S.lie1)
 sbase:base<=s
 gbase:base<=g
 apm:Apart Fm (g :: (Fd++(Ft++Fw)))
 aps:s∉g :: (Fd++(Ft++(Fw++Fm)))
 apl:Apart (L0.ownBlock.toList++L1.ownBlock.toList) (s :: g :: (Fd++(Ft++(Fw++Fm))))
def VO (s g:Nat) (Fd Ft Fw Fm:List Nat) (L0 L1:Value):List Nat:=s :: g :: (Fd++(Ft++(Fw++(Fm++(L0.ownBlock.toList++L1.ownBlock.toList)))))
def StoreAt (w:World) (base s d:Nat) (F:List Nat) (B:Nat) (S:PS):Prop:=∃ g t p m Fd Ft Fw Fm L0 L1,StoreIs w base s d g t p m Fd Ft Fw Fm L0 L1 B S/\F=VO s g Fd Ft Fw Fm L0 L1
namespace StoreIs
variable {w w':World} {base s d g t p m:Nat} {Fd Ft Fw Fm l:List Nat} {L0 L1:Value} {B:Nat} {S:PS}
theorem keep (h:StoreIs w base s d g t p m Fd Ft Fw Fm L0 L1 B S) (c:Keep l w w') (e:Apart (VO s g Fd Ft Fw Fm L0 L1) l):StoreIs w' base s d g t p m Fd Ft Fw Fm L0 L1 B S:=by
 have b:∀ x,x=s\/x=g\/x∈Fd\/x∈Ft\/x∈Fw\/x∈Fm\/x∈L0.ownBlock.toList\/x∈L1.ownBlock.toList->x∉l:=fun x a=>e x (by simpa only[VO,AL,AD] using a)
 exact⟨h.blk.keep c (b _ sq),h.log.keep c (b _ sq) (fun x a=>b x (by simp[a])) (fun x a=>b x (by simp[a])) (fun x a=>b x (by simp[a])),h.img.keep c (fun x a=>b x (by simp[a])),h.blen,
  KA h.l0 c (fun x a=>b x (by simp[a])),KA h.l1 c (fun x a=>b x (by simp[a])),h.sbase,h.gbase,h.apm,h.aps,h.apl⟩
theorem kO (h:StoreIs w base s d g t p m Fd Ft Fw Fm L0 L1 B S) (a:kz w w'):StoreIs w' base s d g t p m Fd Ft Fw Fm L0 L1 B S:=h.keep a Apart.nil_right
theorem lt (h:StoreIs w base s d g t p m Fd Ft Fw Fm L0 L1 B S):∀ x∈VO s g Fd Ft Fw Fm L0 L1,x<w.heap.size:=by
 intro x a;simp only[VO,AL,AD] at a;rcases a with rfl | rfl | a | a | a | a | a | a
 . exact h.blk.lt
 . exact h.log.geom.lt
 . exact h.log.disk.lt x a
 . exact h.log.tab.lt x a
 . exact h.log.wri.lt x a
 . exact h.img.lt x a
 . exact(own_mem h.l0 a).2
 exact(own_mem h.l1 a).2
theorem ge (h:StoreIs w base s d g t p m Fd Ft Fw Fm L0 L1 B S):∀ x∈VO s g Fd Ft Fw Fm L0 L1,base<=x:=by
 intro x a;simp only[VO,AL,AD] at a;rcases a with rfl | rfl | a | a | a | a | a | a
 . exact h.sbase
 . exact h.gbase
 . exact h.log.disk.ge x a
 . exact h.log.tab.ge x a
 . exact h.log.wri.ge x a
 . exact h.img.ge x a
 . exact(own_mem h.l0 a).1
 exact(own_mem h.l1 a).1
theorem setLog (h:StoreIs w base s d g t p m Fd Ft Fw Fm L0 L1 B S) {j Fw':List Nat} {D':PDisk} {o:List (Nat×Nat)} {q:List Nat} {W':PW} (v:LogIs w' base d g t p j Ft Fw' B D' o q W') (k:Keep (Fd++(Ft++Fw)) w w') (l:Grow w Fd j) (n:Grow w Fw Fw') :
 StoreIs w' base s d g t p m j Ft Fw' Fm L0 L1 B { S with D:=D',us:=o,lv:=q,W:=W' }/\Grow w (VO s g Fd Ft Fw Fm L0 L1) (VO s g j Ft Fw' Fm L0 L1):=by
 have y:∀ x,x∈Fd++(Ft++Fw)->x≠s:=fun x b e=>h.aps (by subst e;simp only[AL,AD] at b ⊢;rcases b with b | b | b <;> simp[b]);have z:∀ x∈Fm,x∉Fd++(Ft++Fw):=fun x b a=>h.apm x b (Ak _ a);have r:∀ x∈L0.ownBlock.toList++L1.ownBlock.toList,x∉Fd++(Ft++Fw):=fun x b a=>h.apl x b (by simp only[AL,AD] at a ⊢;rcases a with a | a | a <;> simp[a]);have f:∀ {A A':List Nat} {x:Nat},Grow w A A'->x<w.heap.size->x∉A->x∉A':=fun C b E a=>(C _ a).elim E Z;have u:=h.blk.lt;refine⟨⟨h.blk.keep k (fun a=>y _ a rfl),v,h.img.keep k z,h.blen,KA h.l0 k (fun x b=>r x (At _ (uq b))),KA h.l1 k (fun x b=>r x (A6 _ (uq b))),h.sbase,h.gbase,?_,?_,?_⟩,?_⟩
 . intro x b a
   have i:=h.img.lt x b;have c:=h.apm x b;simp only[AL,AD,DK] at c a;rcases a with a | a | a | a
   . exact c.1 a
   . exact f l i c.2.1 a
   . exact c.2.2.1 a
   exact f n i c.2.2.2 a
 . intro a
   have c:=h.aps;simp only[AL,AD,DK] at c a;rcases a with a | a | a | a | a
   . exact c.1 a
   . exact f l u c.2.1 a
   . exact c.2.2.1 a
   . exact f n u c.2.2.2.1 a
   exact c.2.2.2.2 a
 . intro x b a
   have i:x<w.heap.size:=by
    rcases AD.1 b with b | b
    . exact(own_mem h.l0 b).2
    exact(own_mem h.l1 b).2
   have c:=h.apl x b;simp only[AL,AD,DK] at c a;rcases a with a | a | a | a | a | a
   . exact c.1 a
   . exact c.2.1 a
   . exact f l i c.2.2.1 a
   . exact c.2.2.2.1 a
   . exact f n i c.2.2.2.2.1 a
   exact c.2.2.2.2.2 a
 intro x b
 simp only[VO,AL,AD] at b ⊢;rcases b with b | b | b | b | b | b | b | b
 . simp[b]
 . simp[b]
 . exact(l x b).imp (fun h=>by simp[h]) id
 . simp[b]
 . exact(n x b).imp (fun h=>by simp[h]) id
 . simp[b]
 . simp[b]
 simp[b]
theorem setImg (h:StoreIs w base s d g t p m Fd Ft Fw Fm L0 L1 B S) {I':PImage} (hi:ImageAt w' base m Fm I') (i:I'.bl.length=S.I.bl.length) (c:Keep Fm w w') :
 StoreIs w' base s d g t p m Fd Ft Fw Fm L0 L1 B { S with I:=I' }:=by
 have b:∀ x,x∈s :: g :: (Fd++(Ft++Fw))->x∉Fm:=fun x a e=>by
  rcases AL.1 a with rfl | a
  . exact h.aps (by simp[e])
  exact h.apm x e a
 have f:∀ x∈L0.ownBlock.toList++L1.ownBlock.toList,x∉Fm:=fun x a e=>h.apl x a (by simp[e])
 exact⟨h.blk.keep c (b _ sq),h.log.keep c (b _ sq) (fun x a=>b x (by simp[a])) (fun x a=>b x (by simp[a])) (fun x a=>b x (by simp[a])),hi,i.trans h.blen,
  KA h.l0 c (fun x a=>f x (At _ (uq a))),KA h.l1 c (fun x a=>f x (A6 _ (uq a))),h.sbase,h.gbase,h.apm,h.aps,h.apl⟩
theorem setSt (h:StoreIs w base s d g t p m Fd Ft Fw Fm L0 L1 B S) (st:PSt) (i:Blk w' s 146 #[pq d,pq g,pq t,pq m,pq p,
 .int .i64 st.mode,ii st.view,ii st.epoch,ii st.seq,ii st.done,ii st.mount,ii st.gen,zz,zz,zz,ii S.slot,L0,L1]) (e:Keep [s] w w') :
 StoreIs w' base s d g t p m Fd Ft Fw Fm L0 L1 B { S with st:=st }:=by
 have b:∀ x,x∈g :: (Fd++(Ft++(Fw++Fm)))->x∉[s]:=fun x a c=>by
  simp at c;subst c;exact h.aps a
 have f:∀ x∈L0.ownBlock.toList++L1.ownBlock.toList,x∉[s]:=fun x a c=>h.apl x a (by simp at c;simp[c])
 exact⟨i,h.log.keep e (b _ sq) (fun x a=>b x (by simp[a])) (fun x a=>b x (by simp[a])) (fun x a=>b x (by simp[a])),h.img.keep e (fun x a=>b x (by simp[a])),h.blen,
  KA h.l0 e (fun x a=>f x (At _ (uq a))),KA h.l1 e (fun x a=>f x (A6 _ (uq a))),h.sbase,h.gbase,h.apm,h.aps,h.apl⟩
end StoreIs
namespace StoreAt
variable {w w':World} {base s d:Nat} {F l:List Nat} {B:Nat} {S:PS}
theorem keep (h:StoreAt w base s d F B S) (a:Keep l w w') (b:Apart F l):StoreAt w' base s d F B S:=by
 obtain⟨g,t,p,m,Fd,Ft,Fw,Fm,L0,L1,h,rfl⟩:=h;exact⟨g,t,p,m,Fd,Ft,Fw,Fm,L0,L1,h.keep a b,rfl⟩
theorem kO (h:StoreAt w base s d F B S) (a:kz w w'):StoreAt w' base s d F B S:=h.keep a Apart.nil_right
theorem lt (h:StoreAt w base s d F B S):∀ x∈F,x<w.heap.size:=by obtain⟨g,t,p,m,Fd,Ft,Fw,Fm,L0,L1,h,rfl⟩:=h;exact h.lt
theorem ge (h:StoreAt w base s d F B S):∀ x∈F,base<=x:=by obtain⟨g,t,p,m,Fd,Ft,Fw,Fm,L0,L1,h,rfl⟩:=h;exact h.ge
end StoreAt
theorem KC {w:World} {g:Nat} {t:TypeId} {a b c d e f i j k l m n o p q r s u:Value} (h:Blk w g t #[a,b,c,d,e,f,i,j,k,l,m,n,o,p,q,r,s,u]) :
 cl w g a/\cl w (aq g 1) b/\cl w (aq g 2) c/\cl w (aq g 3) d/\cl w (aq g 4) e/\cl w (aq g 5) f/\cl w (aq g 6) i/\cl w (aq g 7) j/\cl w (aq g 8) k/\cl w (aq g 9) l /\
 cl w (aq g 10) m/\cl w (aq g 11) n/\cl w (aq g 12) o/\cl w (aq g 13) p/\cl w (aq g 14) q/\cl w (aq g 15) r/\cl w (aq g 16) s/\cl w (aq g 17) u:=
 ⟨uq (h.cell 0),uq (h.cell 1),uq (h.cell 2),uq (h.cell 3),uq (h.cell 4),uq (h.cell 5),uq (h.cell 6),uq (h.cell 7),uq (h.cell 8),uq (h.cell 9),
   uq (h.cell 10),uq (h.cell 11),uq (h.cell 12),uq (h.cell 13),uq (h.cell 14),uq (h.cell 15),uq (h.cell 16),uq (h.cell 17)⟩
def Xe (B:Nat) (lv:List Nat) (a:Nat) (gone:List Int):List Nat:=
 gone.foldl (fun lv x=>if 0<x then ZO lv ((x.toNat-(6+4*pgs B)) / 24) (-1) else lv) (if a=0 then lv else ZO lv ((a-(6+4*pgs B)) / 24) 1)
def Wrote (B:Nat) (S:PS) (b:Nat) (bs:List UInt8) (S':PS):Prop:=
 ∃ D' us' lv1 W' a,Added B S.D S.us S.lv S.W ⟨1,b,0,0⟩ bs D' us' lv1 W' a /\
   S'={ S with D:=D',us:=us',lv:=Xe B lv1 a [YH (S.I.ol.getD b 0) a],W:=W',I:={ S.I with ol:=S.I.ol.set b a,od:=QH S.I.ol S.I.od b a },st:={ S.st with seq:=S.st.seq+1 } }
def Trimmed (B:Nat) (S:PS) (b n:Nat) (S':PS):Prop:=
 ∃ D' us' lv1 W' a,Added B S.D S.us S.lv S.W ⟨2,b,n,0⟩ [] D' us' lv1 W' a /\
   S'={ S with D:=D',us:=us',lv:=Xe B lv1 0 (JG b n S.I.ol S.I.od).1,W:=W',I:={ S.I with ol:=(JG b n S.I.ol S.I.od).2.1,od:=(JG b n S.I.ol S.I.od).2.2 },st:={ S.st with seq:=S.st.seq+1 } }
def Marked (B:Nat) (S:PS) (e:Nat) (S':PS):Prop:=
 ∃ D1 us1 lv1 W1 a D2 us2 W2 bd od,Added B S.D S.us S.lv S.W ⟨3,0,0,e⟩ [] D1 us1 lv1 W1 a/\Emitted B D1 us1 W1 D2 us2 W2 /\
   S'={ S with D:=D2.flush,us:=us2,lv:=Xe B lv1 0 (XAC S.I.bl S.I.ol S.I.ol.length),W:=W2,I:=⟨Kr S.I.bl S.I.ol S.I.ol.length,bd,Xs S.I.ol S.I.ol.length,od⟩,st:={ S.st with epoch:=e,seq:=S.st.seq+1,done:=S.st.seq+1 } }
def RefOk (B:Nat) (S:PS) (a:Int):Prop:=a=0\/(0<a/\Lies B S.us S.W a.toNat)
def zeros64:List UInt8:=List.replicate 64 0
def ZF (B:Nat) (S:PS) (a:Int):List UInt8:=if a=0 then zeros64 else KJ B S.D S.W a.toNat
structure Good (B:Nat) (S:PS) (k j:Nat):Prop where
 cap:Cap S.D S.us S.W k j
 now:S.D.now.length=S.D.n*64
 many:S.D.n=198+4*pgs B
 flt:∀ x∈S.D.faults,x=false
 flen:S.D.faults.length=S.D.n
 b1:1<=B
 b64:B<=64
 bl:S.I.bl.length=B
 ol:S.I.ol.length=B
 brefs:∀ x∈S.I.bl,RefOk B S x
 orefs:∀ x∈S.I.ol,x = -1\/RefOk B S x
 seq:S.st.seq<=j
 epoch:S.st.epoch<=j
 done:S.st.done<=S.st.seq
def YE (B:Nat) (S:PS):List (List UInt8):=S.I.bl.map (ZF B S)
def XF (B:Nat) (S:PS):List (Option (List UInt8)):=S.I.ol.map (fun a=>if a = -1 then none else some (ZF B S a))
theorem Kk {B:Nat} {S S':PS} (h:∀ x,Lies B S.us S.W x->Lies B S'.us S'.W x/\KJ B S'.D S'.W x=KJ B S.D S.W x) (b:RefOk B S a):RefOk B S' a/\ZF B S' a=ZF B S a:=by
 rcases b with rfl | ⟨h0,hl⟩
 . exact⟨.inl rfl,rfl⟩
 obtain⟨c,d⟩:=h _ hl
 exact⟨.inr ⟨h0,c⟩,by unfold ZF;rw[AF Z,AF Z];exact d⟩
theorem JS {B:Nat} {S S':PS} (h:∀ x,Lies B S.us S.W x->Lies B S'.us S'.W x/\KJ B S'.D S'.W x=KJ B S.D S.W x) {l:List Int} (c:∀ a∈l,RefOk B S a):(∀ a∈l,RefOk B S' a)/\l.map (ZF B S')=l.map (ZF B S):=
 ⟨fun a b=>(Kk h (c a b)).1,Cy fun a b=>(Kk h (c a b)).2⟩
theorem KP {B:Nat} {S S':PS} (h:∀ x,Lies B S.us S.W x->Lies B S'.us S'.W x/\KJ B S'.D S'.W x=KJ B S.D S.W x) {l:List Int} (d:∀ a∈l,a = -1\/RefOk B S a) :
 (∀ a∈l,a = -1\/RefOk B S' a)/\l.map (fun a=>if a = -1 then none else some (ZF B S' a))=l.map (fun a=>if a = -1 then none else some (ZF B S a)):=
 ⟨fun a b=>(d a b).imp id (fun c=>(Kk h c).1),Cy fun a b=>by
   rcases d a b with rfl | c
   . rfl
   rw[(Kk h c).2]⟩
theorem RefOk.range {B:Nat} {S:PS} (h:RefOk B S a) (b:B<=64):0<=a/\a<4096:=by
 rcases h with rfl | ⟨h0,hl⟩
 . omega
 have:=hl.hi
 have:pgs B<=5:=by unfold pgs;omega
 omega
theorem Wrote.goodG {B:Nat} {S S':PS} (h:Wrote B S b bs S') (c:Good B S k j) (f:XO S.us S.W (JM ⟨1,b,0,0⟩)) (y:b<B) (r:bs.length=64) :
 Good B S' (k+1) (j+1)/\YE B S'=YE B S/\XF B S'=(XF B S).set b (some bs)/\S'.st={ S.st with seq:=S.st.seq+1 }:=by
 obtain⟨D',e,z,W',a,g,rfl⟩:=h;have s:PItem.May ⟨1,b,0,0⟩:=.inl ⟨.inl rfl,by have:=c.b64;simp only;omega,rfl,rfl⟩;have t:=c.cap.addedG f s (fun _=>r) g;obtain⟨u,i,l,m,v⟩:=g.readsG c.cap f c.now c.many;obtain⟨n,w⟩:=v rfl;have o:∀ x,Lies B S.us S.W x->Lies B e W' x/\KJ B D' W' x=KJ B S.D S.W x:=fun x d=>⟨(m x d).1,(m x d).2.1⟩;have p:=JS (B:=B) (S:=S) (S':={ S with D:=D',us:=e,W:=W' }) o c.brefs;have q:=KP (B:=B) (S:=S) (S':={ S with D:=D',us:=e,W:=W' }) o c.orefs;have A:a≠0:=by have:=n.lo;omega
 refine⟨⟨t,u,i.trans c.many,by simp only;rw[l];exact c.flt,by simp only;rw[l,i];exact c.flen,c.b1,c.b64,c.bl,uq c.ol,p.1,?_,by have:=c.seq;simp only;omega,by have:=c.epoch;simp only;omega,by have:=c.done;simp only;omega⟩,p.2,?_,rfl⟩
 . intro x d
   rcases AS d with d | rfl
   . exact q.1 x d
   exact .inr (.inr ⟨Z,uq n⟩)
 unfold XF
 simp only;rw[Ci]
 congr 1
 . exact q.2
 rw[AF Z]
 unfold ZF;rw[AF Z];simp only[Ba];rw[w]
theorem Wrote.good {B:Nat} {S S':PS} (h:Wrote B S b bs S') (a:Good B S k j) (c:k<=50) (d:b<B) (e:bs.length=64) :
 Good B S' (k+1) (j+1)/\YE B S'=YE B S/\XF B S'=(XF B S).set b (some bs)/\S'.st={ S.st with seq:=S.st.seq+1 }:=
 Wrote.goodG h a (a.cap.frees c (by unfold JM;split <;> omega)) d e
theorem VX (b n:Nat) (l:List Int) (c:List Bool) (x:Nat):(JG b n l c).2.1[x]? = if b<=x/\x<b+n/\x<l.length then some 0 else l[x]? := by
 induction n with
 | zero=>rw[AF Z];rfl
 | succ n ih=>
   rw[QU];have d:((VR b (JG b n l c) n).2.1)=(JG b n l c).2.1.set (b+n) 0:=rfl;rw[d,BW,ih];have f:=(ZL b n l c).1;rw[f]
   split
   . rename_i e
     subst e;by_cases a:b+n<l.length
     . rw[AJ a,AJ Z]
     rw[AF a,AF Z,Bc Z]
   rename_i e
   by_cases a:b<=x/\x<b+n/\x<l.length
   . rw[AJ a,AJ Z]
   rw[AF a,AF Z]
def YU {α:Type} (l:List α) (b n:Nat) (v:α):List α:=(List.range l.length).map fun x=>if b<=x/\x<b+n then v else l.getD x v
theorem VU {c:Type} (l:List c) (b n:Nat) (v:c) (x:Nat):(YU l b n v)[x]? = if b<=x/\x<b+n/\x<l.length then some v else l[x]? := by
 unfold YU;rw[Aa];by_cases a:x<l.length
 . rw[List.getElem?_range a]
   simp only[Az]
   split
   . rw[AJ Z]
   rw[AF Z,AA,AC a];rfl
 rw[Bc (uq a),AF Z,Bc Z];rfl
theorem Trimmed.goodG {B:Nat} {S S':PS} (h:Trimmed B S b n S') (c:Good B S k j) (f:XO S.us S.W (JM ⟨2,b,n,0⟩)) (s:1<=n) (z:b+n<=B) :
 Good B S' (k+1) (j+1)/\YE B S'=YE B S/\XF B S'=YU (XF B S) b n (some zeros64)/\S'.st={ S.st with seq:=S.st.seq+1 }:=by
 obtain⟨D',e,A,W',a,g,rfl⟩:=h;have t:PItem.May ⟨2,b,n,0⟩:=.inr (.inl ⟨.inl rfl,by have:=c.b64;simp only;omega,s,by have:=c.b64;simp only;omega,rfl⟩);have u:=c.cap.addedG f t (fun h=>by cases h) g;obtain⟨v,l,m,o,C⟩:=g.readsG c.cap f c.now c.many;have p:∀ x,Lies B S.us S.W x->Lies B e W' x/\KJ B D' W' x=KJ B S.D S.W x:=fun x d=>⟨(o x d).1,(o x d).2.1⟩;have q:=JS (B:=B) (S:=S) (S':={ S with D:=D',us:=e,W:=W' }) p c.brefs;have r:=KP (B:=B) (S:=S) (S':={ S with D:=D',us:=e,W:=W' }) p c.orefs;have w:=c.ol;have y:=(ZL b n S.I.ol S.I.od).1;refine⟨⟨u,v,l.trans c.many,by simp only;rw[m];exact c.flt,by simp only;rw[m,l];exact c.flen,c.b1,c.b64,c.bl,by simp only;rw[y];exact w,q.1,?_,by have:=c.seq;simp only;omega,by have:=c.epoch;simp only;omega,by have:=c.done;simp only;omega⟩,q.2,?_,rfl⟩
 . intro x d
   obtain⟨i,hi⟩:=DF d;rw[VX] at hi
   split at hi
   . cases hi;exact .inr (.inl rfl)
   exact r.1 x (Bz hi)
 apply By
 intro x;rw[VU];unfold XF;simp only[Aa,CJ];rw[VX]
 split
 . rfl
 rw[<- Aa,<- Aa]
 exact congrArg (·[x]?) r.2
theorem Trimmed.good {B:Nat} {S S':PS} (h:Trimmed B S b n S') (a:Good B S k j) (c:k<=50) (d:1<=n) (e:b+n<=B) :
 Good B S' (k+1) (j+1)/\YE B S'=YE B S/\XF B S'=YU (XF B S) b n (some zeros64)/\S'.st={ S.st with seq:=S.st.seq+1 }:=
 Trimmed.goodG h a (a.cap.frees c (by unfold JM;split <;> omega)) d e
def VP (base:List (List UInt8)) (over:List (Option (List UInt8))):List (List UInt8):=List.zipWith (fun b o=>o.getD b) base over
theorem Kl {a ol:List Int} (h:a.length=ol.length):Kr a ol ol.length=List.zipWith (fun b o=>if o = -1 then b else o) a ol:=by
 unfold Kr;rw[AK (by simp;omega),BL Z,Bg]
theorem JR (ol:List Int):Xs ol ol.length=List.replicate ol.length (-1):=by
 unfold Xs;rw[BL Z,Bg]
theorem Marked.goodG {B:Nat} {S S':PS} (h:Marked B S e S') (b:Good B S k j) (p:XO S.us S.W (JM ⟨3,0,0,e⟩)) (A:1<=e/\e<=j+1) (R:j<=100000) :
 Good B S' (k+1) (j+2)/\YE B S'=VP (YE B S) (XF B S)/\XF B S'=List.replicate B none/\S'.st={ S.st with epoch:=e,seq:=S.st.seq+1,done:=S.st.seq+1 }:=by
 obtain⟨T,U,V,X,a,c,g,f,Y,od,q,m,rfl⟩:=h;have C:PItem.May ⟨3,0,0,e⟩:=.inr (.inr (.inl ⟨rfl,rfl,rfl,A.1,by simp only;omega⟩));have l:=b.cap.addedG p C (fun h=>by cases h) q;obtain⟨E,n,r,F,r5⟩:=q.readsG b.cap p b.now b.many;have G:=l.mark m 1 Z c.flush (by show c.acts+1<=_;omega);obtain⟨H,I⟩:=m.reads l.ok E (n.trans b.many) l.seg l.off;obtain⟨_,_,_,_,_,_,_,_,_,_,_,s,_,_,t⟩:=m.facts l.ok
 have w:∀ x,Lies B S.us S.W x->Lies B g f x/\KJ B c.flush f x=KJ B S.D S.W x:=by
  intro x d;obtain⟨J,K,_⟩:=F x d;obtain⟨b1,L⟩:=I x J;exact⟨b1,L.trans K⟩
 have y:=JS (B:=B) (S:=S) (S':={ S with D:=c.flush,us:=g,W:=f }) w b.brefs;have z:=KP (B:=B) (S:=S) (S':={ S with D:=c.flush,us:=g,W:=f }) w b.orefs;have a0:=b.bl;have M:=b.ol;have o:S.I.bl.length=S.I.ol.length:=Z
 refine⟨⟨G,H,(s.trans n).trans b.many,?_,?_,b.b1,b.b64,?_,?_,?_,?_,by have:=b.seq;simp only;omega,by simp only;omega,by simp only;omega⟩,?_,?_,rfl⟩
 . show ∀ x∈c.faults,x=false
   rw[t,r];exact b.flt
 . show c.faults.length=c.n
   rw[t,r,s,n];exact b.flen
 . simp only;rw[Kl o];simp;omega
 . simp only;rw[JR];simp;omega
 . intro x d
   simp only at d;rw[Kl o] at d;obtain⟨i,hi⟩:=DF d;rw[C3] at hi
   split at hi
   . rename_i u v N O
     simp only[Ab] at hi;subst hi
     split
     . exact y.1 u (Bz N)
     exact(z.1 v (Bz O)).resolve_left (by assumption)
   cases hi
 . intro x d
   simp only at d;rw[JR] at d;exact .inl (AX d)
 . have P:YE B S=S.I.bl.map (ZF B { S with D:=c.flush,us:=g,W:=f }):=y.2.symm
   have Q:XF B S=S.I.ol.map (fun a=>if a = -1 then none else some (ZF B { S with D:=c.flush,us:=g,W:=f } a)):=z.2.symm;rw[P,Q];unfold YE VP;simp only;rw[Kl o];apply By;intro i;simp only[Aa,C3];rcases S.I.bl[i]? with _ | u <;> rcases S.I.ol[i]? with _ | v
   . rfl
   . rfl
   . rfl
   simp only[Az,Ab]
   split <;> rfl
 unfold XF
 simp only;rw[JR,DU,AJ rfl,M]
theorem Marked.good {B:Nat} {S S':PS} (h:Marked B S e S') (a:Good B S k j) (b:k<=50) (c:1<=e/\e<=j+1) (d:j<=100000) :
 Good B S' (k+1) (j+2)/\YE B S'=VP (YE B S) (XF B S)/\XF B S'=List.replicate B none/\S'.st={ S.st with epoch:=e,seq:=S.st.seq+1,done:=S.st.seq+1 }:=
 Marked.goodG h a (a.cap.frees b (by unfold JM;split <;> omega)) c d
def KS (B:Nat) (o:POp):Prop:=
 (o.k=1/\0<=o.b/\o.b<B/\o.d.length=64)\/(o.k=2/\0<=o.b/\1<=o.c/\o.b+o.c<=B)\/(o.k=3/\1<=o.e/\o.e<=2147483647)
def Does (B:Nat) (S:PS) (o:POp) (S':PS):Prop:=
 (o.k=1/\Wrote B S o.b.toNat o.d S')\/(o.k=2/\Trimmed B S o.b.toNat o.c.toNat S')\/(o.k=3/\o.e=S.st.epoch+1/\Marked B S o.e.toNat S')
theorem Good.mono {B:Nat} {S:PS} {b c:Nat} (h:Good B S k j) (d:k<=b) (a:j<=c):Good B S b c:=
 ⟨h.cap.mono d a,h.now,h.many,h.flt,h.flen,h.b1,h.b64,h.bl,h.ol,h.brefs,h.orefs,AB h.seq a,AB h.epoch a,h.done⟩
def Ji (st:PSt) (o:POp):PSt:=if o.k=3 then { st with epoch:=st.epoch+1,seq:=st.seq+1,done:=st.seq+1 } else { st with seq:=st.seq+1 }
theorem Does.good {B:Nat} {S S':PS} {o:POp} (h:Does B S o S') (l:KS B o) (c:Good B S k j) (f:k<=50) (n:j<=100000):Good B S' (k+1) (j+2)/\S'.st=Ji S.st o:=by
 rcases h with⟨g,d⟩ | ⟨g,d⟩ | ⟨g,d,p⟩
 . rcases l with⟨_,q,r,m⟩ | ⟨i,_⟩ | ⟨i,_⟩
   . obtain⟨a,_,_,b⟩:=d.good c f Z m
     exact⟨a.mono (AG _) Z,by rw[b,Ji,AF Z]⟩
   . omega
   omega
 . rcases l with⟨i,_⟩ | ⟨_,q,r,m⟩ | ⟨i,_⟩
   . omega
   . obtain⟨a,_,_,b⟩:=d.good c f Z Z
     exact⟨a.mono (AG _) Z,by rw[b,Ji,AF Z]⟩
   omega
 have s:=c.epoch
 obtain⟨a,_,_,b⟩:=p.good c f Z n;have e:o.e.toNat=S.st.epoch+1:=Z
 exact⟨a.mono (AG _) Z,by rw[b,Ji,AJ g,e]⟩
structure RS where
 S:PS
 next:Nat
 sl:List PSlot
def RS.cur (R:RS):PSlot:=R.sl.getD (R.next % R.sl.length) PSlot.none_
def RS.cut (R:RS):List PSlot:=R.sl.set (R.next % R.sl.length) PSlot.none_
inductive Ran (B:Nat):RS->RS->Nat->Prop
 | stop {R:RS}:R.cur.is=false->Ran B R R 0
 | bad {R:RS}:R.cur.is=true->R.cur.o.k=3->R.cur.o.e≠R.S.st.epoch+1->Ran B R ⟨R.S,R.next,R.cut⟩ 1
 | step {R R':RS} {S':PS} {e:Nat}:R.cur.is=true->Does B R.S R.cur.o S'->Ran B ⟨S',R.next+1,R.cut⟩ R' e->Ran B R R' e
def QF (sl:List PSlot):Nat:=sl.countP (·.is)
theorem Yu (hi:i<sl.length) (h:sl[i].is=true):QF (sl.set i PSlot.none_)+1=QF sl:=by
 unfold QF;have:=List.countP_set (p:=(·.is)) (l:=sl) (i:=i) (a:=PSlot.none_) hi;have b:1<=sl.countP (·.is):=CC.2 ⟨sl[i],AN _,h⟩;rw[this,AJ h];simp[PSlot.none_];omega
theorem YAe (sl:List PSlot):QF sl<=sl.length:=Ca
def QD (m:Nat):List PSlot:=List.replicate m PSlot.none_
theorem Jq {m:Nat}:(QD m).set i PSlot.none_=QD m:=by simp[QD]
theorem XAR (S:PS) (n m:Nat):(⟨S,n,QD m⟩:RS).cur=PSlot.none_:=by
 unfold RS.cur QD;simp only[AA,Au]
 split <;> rfl
theorem YAy {B:Nat} {S:PS} {m:Nat} {a:RS} (h:Ran B ⟨S,n,QD m⟩ a e):a=⟨S,n,QD m⟩/\e=0:=by
 have b:=XAR S n m
 cases h with
 | stop _=>exact⟨rfl,rfl⟩
 | bad h _ _=>rw[b] at h;cases h
 | step h _ _=>rw[b] at h;cases h
theorem XBG {B:Nat} {S:PS} {m:Nat} {a:RS} (f:1<=m) (g:q.is=true) (h:Ran B ⟨S,n,(QD m).set (n % m) q⟩ a e) :
 (q.o.k=3/\q.o.e≠S.st.epoch+1/\e=1/\a=⟨S,n,QD m⟩)\/∃ S',Does B S q.o S'/\e=0/\a=⟨S',n+1,QD m⟩:=by
 have c:((QD m).set (n % m) q).length=m:=by simp[QD]
 have i:n % m<m:=Bk _ f
 have b:(⟨S,n,(QD m).set (n % m) q⟩:RS).cur=q:=by
  unfold RS.cur;simp only;rw[c,AA,DQ (by simpa [QD] using i)];rfl
 have d:(⟨S,n,(QD m).set (n % m) q⟩:RS).cut=QD m:=by
  unfold RS.cut;simp only;rw[c,Dl];exact Jq
 cases h with
 | stop h=>rw[b,g] at h;cases h
 | bad _ h2 h3=>rw[b] at h2 h3;rw[d];exact .inl ⟨h2,h3,rfl,rfl⟩
 | step _ h2 h3=>
   rw[b] at h2;rw[d] at h3;obtain⟨j,k⟩:=YAy h3;exact .inr ⟨_,h2,k,j⟩
theorem YBV {B:Nat} {S:PS} {m:Nat} {p:PSlot} {c:RS} (s:2<=m) (i:q.is=true) (j:p.is=true) (h:Ran B ⟨S,n,((QD m).set ((n+1) % m) p).set (n % m) q⟩ c e) :
 (q.o.k=3/\q.o.e≠S.st.epoch+1)\/∃ S',Does B S q.o S'/\((p.o.k=3/\p.o.e≠S'.st.epoch+1/\e=1/\c=⟨S',n+1,QD m⟩)\/∃ f,Does B S' p.o f/\e=0/\c=⟨f,n+1+1,QD m⟩):=by
 have g:(((QD m).set ((n+1) % m) p).set (n % m) q).length=m:=by simp[QD]
 have k:n % m<m:=Bk _ Z
 have l:(n+1) % m≠n % m:=by
  intro t;have u:=DT (n+1) m;have b:=DT n m;have a:m*((n+1) / m)=m*(n / m)+1:=Z
  have o:m∣1:=(Nat.dvd_add_right (DG m (n / m))).1 (a ▸ DG m ((n+1) / m));have:=Nat.le_of_dvd Z o;omega
 have d:(⟨S,n,((QD m).set ((n+1) % m) p).set (n % m) q⟩:RS).cur=q:=by
  unfold RS.cur;simp only;rw[g,AA,DQ (by simpa [QD] using k)];rfl
 have r:(⟨S,n,((QD m).set ((n+1) % m) p).set (n % m) q⟩:RS).cut=(QD m).set ((n+1) % m) p:=by
  unfold RS.cut;simp only;rw[g,Dl,List.set_comm _ _ l,Jq]
 cases h with
 | stop h=>rw[d,i] at h;cases h
 | bad _ b a=>rw[d] at b a;exact .inl ⟨b,a⟩
 | step _ b a=>
   rw[d] at b;rw[r] at a;exact .inr ⟨_,b,XBG Z j a⟩
theorem YBO {B:Nat} {S:PS} {m:Nat} {p:PSlot} {a:RS} (i:2<=m) (h:Ran B ⟨S,n,(QD m).set ((n+1) % m) p⟩ a e):a=⟨S,n,(QD m).set ((n+1) % m) p⟩/\e=0:=by
 have c:((QD m).set ((n+1) % m) p).length=m:=by simp[QD]
 have d:(n+1) % m≠n % m:=by
  intro j;have k:=DT (n+1) m;have l:=DT n m;have f:m*((n+1) / m)=m*(n / m)+1:=Z
  have g:m∣1:=(Nat.dvd_add_right (DG m (n / m))).1 (f ▸ DG m ((n+1) / m));have:=Nat.le_of_dvd Z g;omega
 have b:(⟨S,n,(QD m).set ((n+1) % m) p⟩:RS).cur=PSlot.none_:=by
  unfold RS.cur;simp only;rw[c,AA,List.getElem?_set_ne d];simp only[QD,Au]
  split <;> rfl
 cases h with
 | stop _=>exact⟨rfl,rfl⟩
 | bad h _ _=>rw[b] at h;cases h
 | step h _ _=>rw[b] at h;cases h
structure PIdl where
 base:List (List UInt8)
 over:List (Option (List UInt8))
 ep:Nat
 seq:Nat
 done:Nat
def PIdl.new (B:Nat):PIdl:=⟨List.replicate B zeros64,List.replicate B none,0,0,0⟩
def PIdl.step (I:PIdl) (o:POp):PIdl:=
 if o.k=1 then { I with over:=I.over.set o.b.toNat (some o.d),seq:=I.seq+1 }
 else if o.k=2 then { I with over:=YU I.over o.b.toNat o.c.toNat (some zeros64),seq:=I.seq+1 }
 else { base:=VP I.base I.over,over:=List.replicate I.over.length none,ep:=I.ep+1,seq:=I.seq+1,done:=I.seq+1 }
def idl (B:Nat) (ops:Nat->POp):Nat->PIdl
 | 0=>PIdl.new B
 | n+1=>(idl B ops n).step (ops n)
def KBZ (B:Nat) (ops:Nat->POp) (len:Nat):Prop:=∀ j<len,KS B (ops j)/\((ops j).k=3->(ops j).e=((idl B ops j).ep:Nat)+1)
structure Stm (B:Nat) (ops:Nat->POp) (n:Nat) (S:PS):Prop where
 good:Good B S n (2*n)
 base:YE B S=(idl B ops n).base
 over:XF B S=(idl B ops n).over
 epoch:S.st.epoch=(idl B ops n).ep
 seq:S.st.seq=(idl B ops n).seq
 done:S.st.done=(idl B ops n).done
theorem KZ {a:Type} (l:List a) (b n:Nat) (v:a):(YU l b n v).length=l.length:=by simp[YU]
theorem Good.overLen {B:Nat} {S:PS} (h:Good B S k j):(XF B S).length=B:=by simp[XF,h.ol]
theorem KBA (B:Nat) (ops:Nat->POp) (n:Nat):(idl B ops n).base.length=B/\(idl B ops n).over.length=B:=by
 induction n with
 | zero=>simp[idl,PIdl.new]
 | succ n ih=>
   simp only[idl,PIdl.step]
   split
   . simp[ih]
   split
   . simp[ih,KZ]
   simp[ih,VP]
theorem Does.stm {B:Nat} {S S':PS} (h:Does B S (ops n) S') (i:KS B (ops n)) (b:Stm B ops n S) (u:n<=45):Stm B ops (n+1) S'/\S'.st.view=S.st.view/\S'.st.mode=S.st.mode:=by
 have c:=b.good;obtain⟨p,_⟩:=h.good i c Z Z;have j:Good B S' (n+1) (2*(n+1)):=p;rcases h with⟨f,g⟩ | ⟨f,g⟩ | ⟨f,g,q⟩
 . rcases i with⟨_,r,s,m⟩ | ⟨k,_⟩ | ⟨k,_⟩
   . obtain⟨o,d,e,a⟩:=g.good c Z Z m
     refine⟨⟨j,?_,?_,?_,?_,?_⟩,by rw[a],by rw[a]⟩ <;> simp only[idl,PIdl.step,AJ f]
     . rw[d,b.base]
     . rw[e,b.over]
     . rw[a];exact b.epoch
     . rw[a];simp only;rw[b.seq]
     rw[a];exact b.done
   . omega
   omega
 . have l:¬ (ops n).k=1:=Z
   rcases i with⟨k,_⟩ | ⟨_,r,s,m⟩ | ⟨k,_⟩
   . omega
   . obtain⟨o,d,e,a⟩:=g.good c Z Z Z
     refine⟨⟨j,?_,?_,?_,?_,?_⟩,by rw[a],by rw[a]⟩ <;> simp only[idl,PIdl.step,AF l,AJ f]
     . rw[d,b.base]
     . rw[e,b.over]
     . rw[a];exact b.epoch
     . rw[a];simp only;rw[b.seq]
     rw[a];exact b.done
   omega
 have l:¬ (ops n).k=1:=Z
 have t:¬ (ops n).k=2:=Z
 have v:=c.epoch;obtain⟨o,d,e,a⟩:=q.good c Z Z Z;refine⟨⟨j,?_,?_,?_,?_,?_⟩,by rw[a],by rw[a]⟩ <;> simp only[idl,PIdl.step,AF l,AF t]
 . rw[d,b.base,b.over]
 . rw[e,(KBA B ops n).2]
 . rw[a];simp only;have:=b.epoch;omega
 . rw[a];simp only;rw[b.seq]
 rw[a];simp only;rw[b.seq]
theorem mod_one {N s a:Nat} (e:s<=a/\a<s+N) (f:s<=b/\b<s+N) (h:a % N=b % N):a=b:=by
 rcases Nat.le_total a b with d | d
 . have c:=Nat.sub_mod_eq_zero_of_mod_eq h.symm
   rw[BO Z] at c;omega
 have c:=Nat.sub_mod_eq_zero_of_mod_eq h
 rw[BO Z] at c;omega
structure WinRel (ops:Nat->POp) (len next:Nat) (th:List Bool) (sl:List PSlot):Prop where
 pos:1<=sl.length
 thl:th.length=len+1
 thz:th.getD len false=false
 lo:∀ j<next,th.getD j false=true
 hi:∀ j,th.getD j false=true->j<next+sl.length
 sl:∀ i<sl.length,(sl.getD ((next+i+1) % sl.length) PSlot.none_).is=th.getD (next+i) false/\((sl.getD ((next+i+1) % sl.length) PSlot.none_).is=true->(sl.getD ((next+i+1) % sl.length) PSlot.none_).o=ops (next+i))
 nle:next<=len
theorem Jc (hi:i<sl.length):(sl.set i q).getD k PSlot.none_=if i=k then q else sl.getD k PSlot.none_:=by
 rw[AA,BW]
 split
 . rename_i e
   subst e;simp[hi]
 rw[AA]
theorem ZX {l:List Bool} {b:Bool} (hi:i<l.length):(l.set i b).getD k false=if i=k then b else l.getD k false:=by
 rw[AA,BW]
 split
 . rename_i e
   subst e;simp[hi]
 rw[AA]
theorem WinRel.put {next:Nat} (h:WinRel ops len next th sl) (g:j<len) (k:next<=j) (l:j<next+sl.length) (v:Value) :
 WinRel ops len next (th.set j true) (sl.set ((j+1) % sl.length) ⟨v,ops j,true⟩):=by
 have a:=h.pos;have b:=h.thl;have c:(j+1) % sl.length<sl.length:=Bk _ a;refine⟨uq a,uq b,?_,?_,?_,?_,h.nle⟩
 . rw[ZX Z,AF Z];exact h.thz
 . intro i hi
   rw[ZX Z]
   split
   . rfl
   exact h.lo i hi
 . intro i hi
   rw[ZX Z] at hi;rw[Bl]
   split at hi
   . omega
   exact h.hi i hi
 intro i hi
 rw[Bl] at hi ⊢;rw[Jc c,ZX Z];by_cases e:j=next+i
 . subst e
   rw[AJ rfl,AJ rfl];exact⟨rfl,fun _=>rfl⟩
 have d:¬ (j+1) % sl.length=(next+i+1) % sl.length:=fun f=>e (by
  have:=mod_one (s:=next+1) ⟨Z,Z⟩ ⟨Z,Z⟩ f;omega)
 rw[AF d,AF e];exact h.sl i hi
theorem XBB {B:Nat} (n:KBZ B ops len) (Q:len<=45) {R d:RS} (t:Ran B R d e) :
 ∀ next,R.next=next+1->WinRel ops len next th R.sl->Stm B ops next R.S->e=0/\∃ n',d.next=n'+1/\d.sl.length=R.sl.length/\WinRel ops len n' th d.sl/\th.getD n' false=false/\Stm B ops n' d.S/\next<=n'/\(∀ j,next<=j->j<n'->th.getD j false=true)/\d.S.st.view=R.S.st.view/\d.S.st.mode=R.S.st.mode:=by
 induction t with
 | @stop R h=>
   intro next f a l;refine⟨rfl,next,f,rfl,a,?_,l,AG _,fun j b c=>Z,rfl,rfl⟩;have:=(a.sl 0 a.pos).1;unfold RS.cur at h;rw[f] at h;simp only[BK] at this
   rw[<- this];exact h
 | @bad R b c h3=>
   intro next f a l;exfalso;unfold RS.cur at b c h3;rw[f] at b c h3;have g:=a.sl 0 a.pos;simp only[BK] at g;have k:th.getD next false=true:=by rw[<- g.1];exact b
   have m:next<len:=by
    rcases BG next len with h | h
    . exact h
    have:=a.nle
    obtain rfl:next=len:=Z
    rw[a.thz] at k;cases k
   rw[g.2 b] at c h3;rw[(n next m).2 c,l.epoch] at h3
   exact h3 rfl
 | @step R d S' e b c h3 ih=>
   intro next f a l;have g:=a.sl 0 a.pos;simp only[BK] at g;have u:R.cur=R.sl.getD ((next+1) % R.sl.length) PSlot.none_:=by unfold RS.cur;rw[f]
   rw[u] at b c;have k:th.getD next false=true:=by rw[<- g.1];exact b
   have m:next<len:=by
    rcases BG next len with h | h
    . exact h
    have:=a.nle
    obtain rfl:next=len:=Z
    rw[a.thz] at k;cases k
   rw[g.2 b] at c;obtain⟨v,w,y⟩:=c.stm (n next m).1 l Z;have z:=a.pos;have A:(next+1) % R.sl.length<R.sl.length:=Bk _ z;have o:R.cut=R.sl.set ((next+1) % R.sl.length) PSlot.none_:=by unfold RS.cut;rw[f]
   have p:R.cut.length=R.sl.length:=by rw[o,Bl]
   obtain⟨C,n',D,E,F,G,H,S,I,J,K⟩:=ih (next+1) (by simp only;omega) (by
    simp only;refine⟨Z,a.thl,a.thz,?_,?_,?_,Z⟩
    . intro j q
      rcases BG j next with h | h
      . exact a.lo j h
      obtain rfl:j=next:=Z
      exact k
    . intro j q
      have:=a.hi j q;omega
    intro i hi
    rw[p] at hi ⊢;rw[o,Jc A];by_cases e:i+1=R.sl.length
    . have L:(next+1+i+1) % R.sl.length=(next+1) % R.sl.length:=by
       rw[show next+1+i+1=next+1+R.sl.length from Z,Nat.add_mod_right]
      rw[L,AJ rfl];refine⟨?_,fun h=>by cases h⟩
      have M:th.getD (next+1+i) false=false:=by
       by_cases r:th.getD (next+1+i) false=true
       . have:=a.hi _ r;omega
       simpa using r
      rw[M];rfl
    have N:¬ (next+1) % R.sl.length=(next+1+i+1) % R.sl.length:=fun O=>by
     have:=mod_one (s:=next+1) ⟨Z,Z⟩ ⟨Z,Z⟩ O;omega
    rw[AF N];have:=a.sl (i+1) Z;rw[show next+(i+1)+1=next+1+i+1 from Z,show next+(i+1)=next+1+i from Z] at this;exact this) (uq v)
   refine⟨C,n',D,by rw[E];exact p,F,G,H,Z,fun j T P=>?_,J.trans w,K.trans y⟩;rcases BG next j with h | h
   . exact I j Z P
   obtain rfl:j=next:=Z
   exact k
def PartsAt (w:World) (A:Option Addr) (len:Nat) (zs:List (Int×Int×Int)):Prop:=
 zs.length=len/\(0<len->∃ ab ao,A=some ⟨ab,ao,none⟩/\ab<w.heap.size/\∀ i z,zs[i]? = some z->cl w (aq ab (ao+i*3)) (.int .i64 z.1)/\cl w (aq ab (ao+i*3+1)) (.int .i64 z.2.1) /\
  cl w (aq ab (ao+i*3+2)) (.int .i64 z.2.2))
theorem PartsAt.kO {w w':World} (h:PartsAt w A len zs) (d:kz w w'):PartsAt w' A len zs:=
 ⟨h.1,fun g=>by
   obtain⟨j,k,e,f,l⟩:=h.2 g
   exact⟨j,k,e,d.lt f,fun i z m=>by
    obtain⟨a,b,c⟩:=l i z m;exact⟨(d.cell f sq _).trans a,(d.cell f sq _).trans b,(d.cell f sq _).trans c⟩⟩⟩
theorem PartsAt.keepF {w w':World} {l:List Nat} (h:PartsAt w A len zs) (a:Keep l w w') (b:∀ x∈l,w.heap.size<=x):PartsAt w' A len zs:=
 h.kO (a.mono fun x c=>.inr (b x c))
section
variable (w:World) (base s d g t p m:Nat) (Fd Ft Fw Fm:List Nat) (L0 L1:Value) (B:Nat) (S:PS) (h:StoreIs w base s d g t p m Fd Ft Fw Fm L0 L1 B S)
include h
theorem ImageS_is:cq 71 #[pq s] w (pq m):=by
 obtain⟨a,b,c,d,e,f,g,i,j,k,l,n,o,p,q,r,t,u⟩:=KC h.blk;go_enter func71,ntmps71
 go_wp2
 go_ret;exact⟨rfl,rfl⟩
theorem DiskS_is:cq 91 #[pq s] w (pq d):=by
 obtain⟨a,b,c,e,f,g,i,j,k,l,m,n,o,p,q,r,t,u⟩:=KC h.blk;go_enter func91,ntmps91
 go_wp2
 go_ret;exact⟨rfl,rfl⟩
theorem BlocksS_is:cq 242 #[pq m] w B:=by
 obtain⟨a,b,c,d,hi⟩:=h.img;have:=BlocksI_is w base m a b Fm c d S.I hi;rw[h.blen] at this;exact this
theorem Kc (b n:Nat) (f:1<=n) (i:b+n<=B):cq 109 #[pq s,b,n] w (.bool true):=by
 have a:=ImageS_is w base s d g t p m Fd Ft Fw Fm L0 L1 B S h;have c:=BlocksS_is w base s d g t p m Fd Ft Fw Fm L0 L1 B S h;have j:B<=64:=h.log.geom.few;have k:(1:Int)<=(n:Nat):=Z
 have l:((n:Nat):Int)<=(B:Nat):=Z
 have o:((b:Nat):Int)<=(B:Nat)-(n:Nat):=Z
 go_enter func109,ntmps109;go_wp2_with (first | (refine a.mono ?_;clear a;rintro e w' ⟨rfl,rfl⟩) | (refine c.mono ?_;clear c;rintro e w' ⟨rfl,rfl⟩));go_ret;exact⟨rfl,rfl⟩
theorem JV (mode:Nat) (c:mode=0\/mode=S.st.mode):cq 93 #[pq s,mode,.bool true] w zz:=by
 obtain⟨f,g,i,j,k,l,m,n,o,p,q,r,t,u,v,y,z,A⟩:=KC h.blk;have a:=YAD w base d Fd S.D h.log.disk;rw[h.log.off] at a;by_cases b:mode=0
 . subst b
   go_enter func93,ntmps93;go_wp2_with (refine a.mono ?_;clear a;rintro e w' ⟨rfl,rfl⟩);go_ret;exact⟨rfl,rfl⟩
 obtain rfl:=c.resolve_left b
 have B:¬ ((S.st.mode:Nat):Int)=0:=Z
 go_enter func93,ntmps93;go_wp2_with (refine a.mono ?_;clear a;rintro e w' ⟨rfl,rfl⟩);go_ret;exact⟨rfl,rfl⟩
theorem QBF (a:S.st.mode=1):cq 93 #[pq s,ii 1,.bool false] w (ii 1):=by
 obtain⟨c,d,e,f,g,b,i,j,k,l,m,n,o,p,q,r,t,u⟩:=KC h.blk;rw[a] at b;go_enter func93,ntmps93;go_wp2_with fail;go_ret;exact⟨rfl,rfl⟩
theorem Qt (a:Nat) (ha:a=0\/(6+4*pgs B<=a/\a<198+4*pgs B)) (A:Option Addr) (n c:Nat) (zs:List Int) (C:Rd w A n (KW zs)) (hr:∀ z∈zs,z<=0\/(6+4*pgs B<=z.toNat/\z.toNat<198+4*pgs B)) (hn:n<=1000) (a8:∀ x,A=some x->x.block∉Ft) :
 Calls prog 107 #[pq s,a,.slice A n c] w fun e w'=>e=.returned (.tuple #[])/\StoreIs w' base s d g t p m Fd Ft Fw Fm L0 L1 B { S with lv:=Xe B S.lv a zs }/\Keep Ft w w':=by
 have D:zs.length=n:=uq C.1
 have a9:s∉Ft:=fun hm=>h.aps (by simp[hm]);have aa:g∉Ft:=h.log.gt
 have E:Calls prog 40 #[pq t,a,ii 1] w fun e w'=>∃ b,e=.returned (.bool b)/\TableAt w' base t g Ft S.us (Xe B S.lv a [])/\Keep Ft w w':=by
  rcases ha with rfl | ⟨h1,h2⟩
  . refine(XBd h.log.tab h.log.geom 1).mono ?_
    rintro e w' ⟨rfl,f⟩;exact⟨_,rfl,h.log.tab.kO f,f.zero⟩
  refine(KAu h.log.tab h.log.geom a h1 h2 1 (.inl rfl)).mono ?_
  rintro e w' ⟨rfl,o,f⟩;refine⟨_,rfl,?_,f⟩;unfold Xe;rw[AF Z];exact o
 have ab:∀ w' q,TableAt w' base t g Ft S.us q->Keep Ft w w'->StoreIs w' base s d g t p m Fd Ft Fw Fm L0 L1 B { S with lv:=q }:=fun w' q o f=>(h.setLog (h.log.setTab o f) (f.sub (fun x r=>by simp[r])) (Grow.refl _ _) (Grow.refl _ _)).1;have F:=h.blk;have ac:=h.log.geom;obtain⟨G,H,I,J,K,L,M,N,O,P,Q,R,T,U,V,W,X,Y⟩:=KC F;clear h;have a0:=ZB D;clear D;go_enter func107,ntmps107;go_wp2_with (refine E.mono ?_;clear E;rintro e w1 ⟨b,rfl,ad,ae⟩);clear G H I J K L M N O P Q R T U V W X Y;go_loopw [16] (fun i wr=>∃ j:Nat,j<=n/\i=.int .i64 (j:Nat)/\TableAt wr base t g Ft S.us (Xe B S.lv a (zs.take j))/\Keep Ft w wr) (fun i _=>n-(intOf i).toNat)
 case atStart=>exact⟨0,AP _,rfl,uq ad,ae⟩
 obtain⟨j,hj,rfl,l,k⟩:=hrel;by_cases a1:j<n
 . have a2:j<zs.length:=by rw[ZA a0];exact a1
   obtain⟨ai,ao,u,rfl,hu,aj,ak⟩:=(C.keepIf k a8).at_ a1;have a3:zs[j]? = some zs[j]:=AC a2;simp only[KW,i64,Aa,a3,Az,Ab] at hu;have af:=hr zs[j] (AN _)
   have a4:Xe B S.lv a (zs.take (j+1))=if 0<zs[j] then ZO (Xe B S.lv a (zs.take j)) ((zs[j].toNat-(6+4*pgs B)) / 24) (-1) else Xe B S.lv a (zs.take j):=by
    unfold Xe;rw[AO a2,List.foldl_append];rfl
   obtain⟨G,H,I,J,K,L,M,N,O,P,Q,R,T,U,V,W,X,Y⟩:=KC (F.keep k a9);subst hu;have a5:=ZB a4;clear a4 a3;generalize zs[j]=z at *;by_cases a6:0<z
   . have a7:=af.resolve_left Z
     have y:=KAu l (ac.keep k aa) z.toNat a7.1 a7.2 (-1) (.inr rfl);rw[show ((z.toNat:Nat):Int)=z from Z] at y;go_wp2_with (refine y.mono ?_;clear y;rintro e w2 ⟨rfl,ag,ah⟩);go_roundw;case rel=>exact⟨j+1,Z,by go_num,by rw[ZA a5,AJ a6];exact ag,k.trans ah (fun x r=>.inl r)⟩
     case measure=>simp[intOf];omega
   go_wp2_with fail
   go_roundw;case rel=>exact⟨j+1,Z,by go_num,by rw[ZA a5,AF a6];exact l,k⟩
   case measure=>simp[intOf];omega
 obtain rfl:j=n:=Z
 go_wp2_with fail;refine Dv (v:=.tuple #[]) (by simp[results,results107,go_sem]) rfl ?_;rw[AK (by rw[ZA a0];exact AG _)] at l;exact⟨rfl,ab _ _ l k,k⟩
theorem QAt (j:S.W.Ok) (X:S.D.acts<=8000000) (Y:S.W.pos.lsn<2147483647) :
 Calls prog 106 #[pq s] w fun e w'=>e=.returned zz/\∃ k Fw' l n o,StoreIs w' base s d g t p m k Ft Fw' Fm L0 L1 B { S with D:=l.flush,us:=n,W:=o }/\Emitted B S.D S.us S.W l n o /\
  Keep (Fd++(Ft++Fw)) w w'/\Grow w Fd k/\Grow w Fw Fw':=by
 have q:=YAG (w:=w) (base:=base) (d:=d) (g:=g) (t:=t) (p:=p) (Fd:=Fd) (Ft:=Ft) (Fw:=Fw) (B:=B) (D:=S.D) (us:=S.us) (lv:=S.lv) (W:=S.W) h.log j X Y;have r:=h.blk;have a0:s∉Fd++(Ft++Fw):=fun a=>h.aps (by simp only[AL,AD] at a ⊢;rcases a with a | a | a <;> simp[a]);obtain⟨u,v,y,z,A,C,E,F,G,H,I,J,K,L,M,N,O,P⟩:=KC r;go_enter func106,ntmps106
 go_wp2_with (first
  | (go_at_call 94
     refine q.mono ?_;clear q u v y z A C E F G H I J K L M N O P;rintro e w1 ⟨rfl,a8,a1,a2,a3,a4,b,Q,c,f,R⟩;obtain⟨u,v,y,z,A,C,E,F,G,H,I,J,K,L,M,N,O,P⟩:=KC (r.keep c a0);have hf:=Q.facts j
     have T:=Xt b.disk b.off b.fuse (by have:=hf.2.2.2.2.2.2.2.2.1;omega) b.le)
  | (go_at_call 96
     refine T.mono ?_;clear T;rintro e w2 ⟨rfl,a5,a6,U,i⟩))
 go_ret;have h2:=b.setDisk a6 U i rfl rfl rfl;have V:Keep (Fd++(Ft++Fw)) w w2:=c.trans U (fun x hx=>(f x hx).imp (fun h=>by simp[h]) id);obtain⟨a7,_⟩:=h.setLog h2 V (f.trans c.size i) R;exact⟨rfl,a5,a1,a2,a3,a4,a7,Q,V,f.trans c.size i,R⟩
end
theorem Vn {B:Nat} {S:PS} {x z:Int} (h:x = -1\/RefOk B S x):YH x z<=0\/(6+4*pgs B<=(YH x z).toNat/\(YH x z).toNat<198+4*pgs B):=by
 unfold YH
 split
 . exact .inl (Int.le_refl _)
 rcases h with rfl | rfl | ⟨h0,hl⟩
 . exact .inl Z
 . exact .inl Z
 right
 rw[show max x 0=x from Z];exact⟨hl.lo,hl.hi⟩
theorem YAQ {l:List Int} (h:i<l.length):l.getD i 0∈l:=by
 rw[AA,AC h];exact AN h
theorem Good.room {B:Nat} {S:PS} (a:Good B S k j) (b:k<=50) {m:Nat} (c:m<=1) (d:Bool):RoomOk S.us S.W m d:=by
 intro _ e;have f:=a.cap.free b c e;obtain⟨h,g⟩:=VL S.us Z;exact⟨by have:=a.cap.ul;omega,g,fun _=>f⟩
theorem RoomOk.frees {m:Nat} {b:Bool} (h:RoomOk us W m b) (e:us.length=8):XO us W m:=by
 intro c d;obtain⟨f,a,-⟩:=h c d;rw[XI Z] at a;unfold YB;exact CC.2 ⟨_,AN (l:=us) (n:=XC us) Z,uq a⟩
theorem XBe {s g:Nat} {Fd Ft Fw Fm:List Nat} {L0 L1:Value} {l:List Nat} (h:∀ x∈l,x=s\/x∈Fd\/x∈Ft\/x∈Fw\/x∈Fm):∀ x∈l,x∈VO s g Fd Ft Fw Fm L0 L1:=fun x a=>by
 simp only[VO,AL,AD];rcases h x a with h | h | h | h | h <;> simp[h]
theorem XAE {w:World} {base s d:Nat} {F:List Nat} {B:Nat} {S:PS} (h:StoreAt w base s d F B S) (n:Good B S k j) (a4:RoomOk S.us S.W 1 false) (hj:j<=100000) (i:S.st.mode=1) (b:Nat) (hb:b<B) (c:Nat) (bs:List UInt8) (hr:Rd w A 64 (bys bs)) (ai:∀ x,A=some x->x.block∉F) :
 Calls prog 27 #[pq s,b,.slice A 64 c] w fun e w'=>e=.returned zz/\∃ a5 S',StoreAt w' base s d a5 B S'/\Wrote B S b bs S'/\Keep F w w'/\Grow w F a5:=by
 obtain⟨g,t,p,m,Fd,Ft,Fw,Fm,L0,L1,h,rfl⟩:=h;have b9:bs.length=64:=uq hr.1
 have a6:=Kc w base s d g t p m Fd Ft Fw Fm L0 L1 B S h b 1 Z Z;have a7:=JV w base s d g t p m Fd Ft Fw Fm L0 L1 B S h 1 (.inr i.symm);have aj:PItem.May ⟨1,b,0,0⟩:=.inl ⟨.inl rfl,by have:=n.b64;simp only;omega,rfl,rfl⟩;have ba:=n.cap.acts;have bb:=n.cap.lsn;have o:=XAZ h.log n.cap.ok n.cap.off Z Z n.cap.opn aj sq a4 (A:=A) c bs (by simpa [JM,PItem.loaded] using hr) (fun x f i=>ai x f (XBe (by intro y hy;simp only[AD] at hy;rcases hy with h | h | h <;> simp[h]) _ i));rw[show 64*JM ⟨1,b,0,0⟩=64 by simp[JM,PItem.loaded]] at o;simp only[itc] at o;have a8:=h.blk;have bc:S.st.seq<=100000:=by have:=n.seq;omega
 have ak:s∉Fd++(Ft++Fw):=fun i=>h.aps (by simp only[AL,AD] at i ⊢;rcases i with i | i | i <;> simp[i]);obtain⟨D,E,G,H,I,J,K,L,M,N,O,P,Q,R,T,U,V,W⟩:=KC a8;go_enter func27,ntmps27
 go_wp2_with (first
  | (go_at_call 109
     refine a6.mono ?_;clear a6
     rintro e w' ⟨rfl,rfl⟩)
  | (go_at_call 93
     refine a7.mono ?_;clear a7
     rintro e w' ⟨rfl,rfl⟩)
  | (go_at_call 105
     refine o.mono ?_;clear o D E G H I J K L M N O P Q R T U V W;rintro e w1 ⟨a,rfl,a9,aa,al,am,an,ao,h1,ab,X,ap,ar⟩;have Y:=a8.keep X ak;have f8:=Y.frozen 8;obtain⟨D,E,G,H,I,J,K,L,M,N,O,P,Q,R,T,U,V,W⟩:=KC Y))
 obtain⟨au,av⟩:=h.setLog h1 X ap ar;have ac:Keep [s] w1 (w1.setCell (aq s 8) (.int .i64 ((S.st.seq:Nat)+1))):=kq.sc s 8;have aw:=Y.set 8 (.int .i64 ((S.st.seq:Nat)+1));have a0:=au.setSt { S.st with seq:=S.st.seq+1 } (uq aw) ac;obtain⟨_,_,_,_,q⟩:=ab.readsG n.cap (a4.frees n.cap.ul) n.now n.many;obtain⟨q,_⟩:=q rfl;have ax:=q.lo;have ay:=q.hi;have bd:=(ZD h.log.geom.pos h.log.geom.few).2;have a1:=YBF a0.img b a (by rw[h.blen];exact hb) Z;have ad:=Vn (z:=(a:Nat)) (n.orefs (S.I.ol.getD b 0) (YAQ (by rw[n.ol];exact hb)));obtain⟨a2,a3⟩:=ex (YH (S.I.ol.getD b 0) a);rw[<- a3] at a1 ad;have az:=ZB a3;clear a3;generalize w1.setCell (aq s 8) (.int .i64 ((S.st.seq:Nat)+1))=w2 at *;have bf:s∉Fm:=fun i=>h.aps (by simp[i]);have bg:=a0.blk;clear D E G H I J K L M N O P Q R T U V W
 go_wp2_with (first
  | (go_at_call 110
     refine a1.mono ?_;clear a1;rintro e r ⟨rfl,b0,ae⟩))
 have af:=a0.setImg b0 sq ae;have ag:kz r (r.alloc (.cells #[ii a2] 3)):=kq.alloc _;have b1:=XS r (.int .i64 a2) 3;have b2:∀ x∈Ft,x<r.heap.size:=fun x f=>af.log.tab.lt x f;have ah:=Qt _ base s d g t p m a9 Ft aa Fm L0 L1 B _ (af.kO ag) a (.inr ⟨ax,ay⟩) _ 1 1 [a2] b1 (uq ad) Z (fun x f i=>by cases f;have:=b2 _ i;simp at this);go_wp2_with (refine ah.mono ?_;clear ah;rintro e w4 ⟨rfl,b3,b4⟩);go_ret;have C:∀ {l:List Nat} {u v:World},(∀ x∈l,x=s\/x∈Fd\/x∈Ft\/x∈Fw\/x∈Fm)->Keep l u v->Keep (VO s g Fd Ft Fw Fm L0 L1) u v:=fun hl hk=>hk.sub (XBe hl);have b5:=C (by intro x f;simp only[AD] at f;rcases f with h | h | h <;> simp[h]) X;have b6:=b5.trans (C (by intro x f;simp at f;simp[f]) ac) (fun x f=>.inl f);have b7:=b6.trans (C (by intro x f;simp[f]) ae) (fun x f=>.inl f);have b8:=(b7.tO ag).trans (C (by intro x f;simp[f]) b4) (fun x f=>.inl f);refine⟨rfl,_,_,⟨g,t,p,m,a9,Ft,aa,Fm,L0,L1,b3,rfl⟩,⟨al,am,an,ao,a,ab,?_⟩,b8,av⟩;rw[<- ZA az]
theorem ZBB {w:World} {base s d:Nat} {F:List Nat} {B:Nat} {S:PS} (h:StoreAt w base s d F B S) (a:Good B S k j) (g:k<=50) (i:j<=100000) (l:S.st.mode=1) (b:Nat) (m:b<B) (c:Nat) (bs:List UInt8) (n:Rd w A 64 (bys bs)) (o:∀ x,A=some x->x.block∉F) :
 Calls prog 27 #[pq s,b,.slice A 64 c] w fun e w'=>e=.returned zz/\∃ f S',StoreAt w' base s d f B S'/\Wrote B S b bs S'/\Keep F w w'/\Grow w F f:=
 XAE h a (a.room g Z false) i l b m c bs n o
theorem YAV {B:Nat} {S:PS} (b n:Nat) (l:List Int) (c:List Bool) (h:∀ x∈l,x = -1\/RefOk B S x) (f:b+n<=l.length) :
 (∀ x∈(JG b n l c).2.1,x = -1\/RefOk B S x)/\∀ x∈(JG b n l c).1,x<=0\/(6+4*pgs B<=x.toNat/\x.toNat<198+4*pgs B):=by
 induction n with
 | zero=>exact⟨h,by intro x a;cases a⟩
 | succ n ih=>
   obtain⟨d,e⟩:=ih Z;have g:=(ZL b n l c).1;rw[QU];unfold VR;refine⟨fun x a=>?_,fun x a=>?_⟩
   . simp only at a
     rcases AS a with a | rfl
     . exact d x a
     exact .inr (.inl rfl)
   simp only at a
   split at a
   . rcases AD.1 a with a | a
     . exact e x a
     simp only[Ag] at a
     subst a;exact Vn (d _ (YAQ Z))
   exact e x (uq a)
theorem XBC {B:Nat} {S:PS} (b ol:List Int) (k:Nat) (h:∀ x∈b,RefOk B S x):∀ x∈XAC b ol k,x<=0\/(6+4*pgs B<=x.toNat/\x.toNat<198+4*pgs B):=by
 intro x a;unfold XAC at a;obtain⟨p,c,a⟩:=Bs.1 a;have d:p.1∈b:=(List.of_mem_zip (Ch c)).1
 split at a
 . cases a
 split at a
 . simp only[Ag] at a
   subst a;exact Vn (.inr (h _ d))
 cases a
theorem XBE {w:World} {base s d:Nat} {F:List Nat} {B:Nat} {S:PS} (h:StoreAt w base s d F B S) (i:Good B S k j) (ad:RoomOk S.us S.W 0 false) (hj:j<=100000) (f:S.st.mode=1) (b n:Nat) (C:1<=n) (D:b+n<=B) :
 Calls prog 78 #[pq s,b,n] w fun e w'=>e=.returned zz/\∃ a3 S',StoreAt w' base s d a3 B S'/\Trimmed B S b n S'/\Keep F w w'/\Grow w F a3:=by
 obtain⟨g,t,p,m,Fd,Ft,Fw,Fm,L0,L1,h,rfl⟩:=h;have a4:=Kc w base s d g t p m Fd Ft Fw Fm L0 L1 B S h b n C D;have a5:=JV w base s d g t p m Fd Ft Fw Fm L0 L1 B S h 1 (.inr f.symm);have ae:PItem.May ⟨2,b,n,0⟩:=.inr (.inl ⟨.inl rfl,by have:=i.b64;simp only;omega,C,by have:=i.b64;simp only;omega,rfl⟩);have b5:=i.cap.acts;have b6:=i.cap.lsn;have q:=XAZ h.log i.cap.ok i.cap.off Z Z i.cap.opn ae sq ad (A:=none) 0 [] (by rw[show 64*JM ⟨2,b,n,0⟩=0 by simp[JM,PItem.loaded]];exact Rd.nil w none) (fun x c=>by cases c);rw[show 64*JM ⟨2,b,n,0⟩=0 by simp[JM,PItem.loaded]] at q;simp only[itc] at q;have a6:=h.blk;have b7:S.st.seq<=100000:=by have:=i.seq;omega
 have af:s∉Fd++(Ft++Fw):=fun f=>h.aps (by simp only[AL,AD] at f ⊢;rcases f with f | f | f <;> simp[f]);obtain⟨E,G,H,I,J,K,L,M,N,O,P,Q,R,T,U,V,W,X⟩:=KC a6;go_enter func78,ntmps78
 go_wp2_with (first
  | (go_at_call 109
     refine a4.mono ?_;clear a4
     rintro e w' ⟨rfl,rfl⟩)
  | (go_at_call 93
     refine a5.mono ?_;clear a5
     rintro e w' ⟨rfl,rfl⟩)
  | (go_at_call 105
     refine q.mono ?_;clear q E G H I J K L M N O P Q R T U V W X;rintro e w1 ⟨a,rfl,a7,a8,ag,ah,ai,aj,r,ak,Y,al,am⟩;have a0:=a6.keep Y af;have f8:=a0.frozen 8;obtain⟨E,G,H,I,J,K,L,M,N,O,P,Q,R,T,U,V,W,X⟩:=KC a0))
 obtain⟨an,ao⟩:=h.setLog r Y al am;have a9:Keep [s] w1 (w1.setCell (aq s 8) (.int .i64 ((S.st.seq:Nat)+1))):=kq.sc s 8;have ap:=a0.set 8 (.int .i64 ((S.st.seq:Nat)+1));have o:=an.setSt { S.st with seq:=S.st.seq+1 } (uq ap) a9;have a1:=XBR o.img b n C (by rw[h.blen];exact D);have aa:=(YAV b n S.I.ol S.I.od i.orefs (by rw[i.ol];exact D)).2;have ar:=(XW b n S.I.ol S.I.od (-1) Z o.img.ok.2.2).2.2;have b8:=i.b64;obtain⟨tr,y⟩:=ex (JG b n S.I.ol S.I.od);have b9:tr.2.1.length=S.I.ol.length:=by rw[y];exact(ZL b n S.I.ol S.I.od).1
 rw[<- y] at a1 aa ar;have au:=ZB y;clear y;generalize w1.setCell (aq s 8) (.int .i64 ((S.st.seq:Nat)+1))=w2 at *;have ba:s∉Fm:=fun f=>h.aps (by simp[f]);have bb:=o.blk;clear E G H I J K L M N O P Q R T U V W X
 go_wp2_with (first
  | (go_at_call 208
     refine a1.mono ?_;clear a1;rintro e w3 ⟨bc,rfl,a2,av,ab⟩;obtain⟨aw,gc,rfl,_⟩:=XB a2))
 have ax:=o.setImg av sq ab;have ay:∀ x∈Ft,x<w2.heap.size:=fun x c=>o.log.tab.lt x c
 have ac:=Qt _ base s d g t p m a7 Ft a8 Fm L0 L1 B _ ax 0 (.inl rfl) aw tr.1.length gc tr.1 (Rd.of_own a2) aa Z (fun x c f=>by
  subst c;obtain⟨r,h2⟩ | ⟨gb,cap,bd,e,r,_⟩:=a2.2
  . cases r
  injection e with e _ _
  injection e with e;subst e;have:=ay _ f;simp at this;omega)
 go_wp2_with (refine ac.mono ?_;clear ac;rintro e w4 ⟨rfl,az,b0⟩);go_ret;have z:∀ {l:List Nat} {u v:World},(∀ x∈l,x=s\/x∈Fd\/x∈Ft\/x∈Fw\/x∈Fm)->Keep l u v->Keep (VO s g Fd Ft Fw Fm L0 L1) u v:=fun hl hk=>hk.sub (XBe hl);have b1:=z (by intro x c;simp only[AD] at c;rcases c with h | h | h <;> simp[h]) Y;have b2:=b1.trans (z (by intro x c;simp at c;simp[c]) a9) (fun x c=>.inl c);have b3:=b2.trans (z (by intro x c;simp[c]) ab) (fun x c=>.inl c);have b4:=b3.trans (z (by intro x c;simp[c]) b0) (fun x c=>.inl c);refine⟨rfl,_,_,⟨g,t,p,m,a7,Ft,a8,Fm,L0,L1,az,rfl⟩,⟨ag,ah,ai,aj,a,ak,?_⟩,b4,ao⟩;rw[<- ZA au]
theorem XBJ {w:World} {base s d:Nat} {F:List Nat} {B:Nat} {S:PS} (h:StoreAt w base s d F B S) (a:Good B S k j) (f:k<=50) (g:j<=100000) (i:S.st.mode=1) (b n:Nat) (l:1<=n) (m:b+n<=B) :
 Calls prog 78 #[pq s,b,n] w fun e w'=>e=.returned zz/\∃ c S',StoreAt w' base s d c B S'/\Trimmed B S b n S'/\Keep F w w'/\Grow w F c:=
 XBE h a (a.room f Z false) g i b n l m
theorem XAo {w:World} {base s d:Nat} {F:List Nat} {B:Nat} {S:PS} (h:StoreAt w base s d F B S) (c:S.st.mode=1) (e:Nat) (f:e≠S.st.epoch+1) (i:S.st.epoch<=1000000000) :
 cq 26 #[pq s,e] w (ii 1):=by
 obtain⟨g,t,p,m,Fd,Ft,Fw,Fm,L0,L1,h,rfl⟩:=h;have a:=QBF w base s d g t p m Fd Ft Fw Fm L0 L1 B S h c;obtain⟨j,k,l,n,o,q,u,v,y,z,A,C,D,E,G,H,I,J⟩:=KC h.blk;have b:¬ ((e:Nat):Int)=(S.st.epoch:Nat)+1:=Z
 go_enter func26,ntmps26;have K:(((e:Nat):Int) == (S.st.epoch:Nat)+1)=false:=uq b
 clear b f;go_wp2_with (refine a.mono ?_;clear a;rintro r w' ⟨rfl,rfl⟩);go_ret;exact⟨rfl,rfl⟩
theorem KAJ {w:World} {base s d:Nat} {F:List Nat} {B:Nat} {S:PS} (h:StoreAt w base s d F B S) (c:Good B S k j) (a6:RoomOk S.us S.W 0 false) (hj:j<=100000) (f:S.st.mode=1) (e:Nat) (he:e=S.st.epoch+1) :
 Calls prog 26 #[pq s,e] w fun r w'=>r=.returned zz/\∃ a7 S',StoreAt w' base s d a7 B S'/\Marked B S e S'/\Keep F w w'/\Grow w F a7:=by
 obtain⟨g,t,p,m,Fd,Ft,Fw,Fm,L0,L1,h,rfl⟩:=h;have a8:=JV w base s d g t p m Fd Ft Fw Fm L0 L1 B S h 1 (.inr f.symm);have bn:S.st.epoch<=100000:=by have:=c.epoch;omega
 have a9:PItem.May ⟨3,0,0,e⟩:=.inr (.inr (.inl ⟨rfl,rfl,rfl,by simp only;omega,by simp only;omega⟩));have bo:=c.cap.acts;have bp:=c.cap.lsn;have o:=XAZ (w:=w) (base:=base) (d:=d) (g:=g) (t:=t) (p:=p) (Fd:=Fd) (Ft:=Ft) (Fw:=Fw) (B:=B) (D:=S.D) (us:=S.us) (lv:=S.lv) (W:=S.W) h.log c.cap.ok c.cap.off Z Z c.cap.opn a9 sq a6 (A:=none) 0 [] (by rw[show 64*JM ⟨3,0,0,e⟩=0 by simp[JM,PItem.loaded]];exact Rd.nil w none) (fun x b=>by cases b);rw[show 64*JM ⟨3,0,0,e⟩=0 by simp[JM,PItem.loaded]] at o;simp only[itc] at o;have an:=h.blk;have bq:S.st.seq<=100000:=by have:=c.seq;omega
 have br:s∉Fd++(Ft++Fw):=fun f=>h.aps (by simp only[AL,AD] at f ⊢;rcases f with f | f | f <;> simp[f]);obtain⟨G,H,I,J,K,L,M,N,O,P,Q,R,T,U,V,X,Y,a0⟩:=KC an;have ao:((e:Nat):Int)=(S.st.epoch:Nat)+1:=Z
 have bs:=ZB he;clear he;go_enter func26,ntmps26
 go_wp2_with (first
  | (go_at_call 93
     refine a8.mono ?_;clear a8 ao
     rintro r w' ⟨rfl,rfl⟩)
  | (go_at_call 105
     refine o.mono ?_;clear o G H I J K L M N O P Q R T U V X Y a0;rintro r w1 ⟨a,rfl,ap,ar,au,av,aw,ax,n,aa,q,ab,ac⟩;obtain⟨ad,bt⟩:=h.setLog n q ab ac;have ay:XO S.us S.W (JM ⟨3,0,0,e⟩):=a6.frees c.cap.ul;have a1:=c.cap.addedG ay a9 (fun h=>by cases h) aa
     have ae:=QAt w1 base s d g t p m ap Ft ar Fm L0 L1 B _ ad a1.ok (by have:=a1.acts;simp only;omega) (by have:=a1.lsn;simp only;omega))
  | (go_at_call 106
     refine ae.mono ?_;clear ae;rintro r z ⟨rfl,af,ag,az,b0,b1,a2,b2,ah,b3,b4⟩;have i:=a2.blk;have f7:=i.frozen 7;have f8:=i.frozen 8;have f9:=i.frozen 9;simp only at i;obtain⟨G,H,I,J,K,L,M,N,O,P,Q,R,T,U,V,X,Y,a0⟩:=KC i))
 have ai:Keep [s] z (((z.setCell (aq s 7) (.int .i64 (e:Nat))).setCell (aq s 8) (.int .i64 ((S.st.seq:Nat)+1))).setCell (aq s 9) (.int .i64 ((S.st.seq:Nat)+1))):=
  (((Keep.refl [s] z).sc s 7).sc s 8).sc s 9
 have b5:=((i.set 7 (.int .i64 (e:Nat))).set 8 (.int .i64 ((S.st.seq:Nat)+1))).set 9 (.int .i64 ((S.st.seq:Nat)+1));have C:=a2.setSt { S.st with epoch:=e,seq:=S.st.seq+1,done:=S.st.seq+1 } (uq b5) ai;have a3:=XAp C.img;have aj:=XBC (B:=B) (S:=S) S.I.bl S.I.ol S.I.ol.length c.brefs;have b6:=Xy S.I.bl S.I.ol S.I.ol.length;have bu:=c.ol;have bv:=c.b64;have bw:=c.bl;have b7:(Kr S.I.bl S.I.ol S.I.ol.length).length=S.I.bl.length:=Ju Z Z;obtain⟨gs,a4⟩:=ex (XAC S.I.bl S.I.ol S.I.ol.length);rw[<- a4] at a3 aj b6;have b8:=ZB a4;clear a4;generalize ((z.setCell (aq s 7) (.int .i64 (e:Nat))).setCell (aq s 8) (.int .i64 ((S.st.seq:Nat)+1))).setCell (aq s 9) (.int .i64 ((S.st.seq:Nat)+1))=w3 at *;have bx:=C.blk;clear G H I J K L M N O P Q R T U V X Y a0
 go_wp2_with (first
  | (go_at_call 108
     refine a3.mono ?_;clear a3;rintro r w4 ⟨bz,bd,od,rfl,a5,b9,ak⟩;obtain⟨ba,gc,rfl,_⟩:=XB a5))
 have bb:=C.setImg b9 (uq b7) ak;have bc:∀ x∈Ft,x<w3.heap.size:=fun x b=>C.log.tab.lt x b
 have al:=Qt _ base s d g t p m af Ft ag Fm L0 L1 B _ bb 0 (.inl rfl) ba gs.length gc gs (Rd.of_own a5) aj Z (fun x b f=>by
  subst b;obtain⟨n,h2⟩ | ⟨gb,cap,c2,e,n,_⟩:=a5.2
  . cases n
  injection e with e _ _
  injection e with e;subst e;have:=bc _ f;simp at this;omega)
 go_wp2_with (refine al.mono ?_;clear al;rintro r w5 ⟨rfl,bf,bg⟩);go_ret;have E:∀ {l:List Nat} {u v:World},(∀ x∈l,x=s\/x∈Fd\/x∈Ft\/x∈Fw\/x∈Fm)->Keep l u v->Keep (VO s g Fd Ft Fw Fm L0 L1) u v:=fun hl hk=>hk.sub (XBe hl);have am:=(h.setLog n q ab ac).2;obtain⟨_,bh⟩:=ad.setLog (a2.log) ah b3 b4;have bi:=E (by intro x b;simp only[AD] at b;rcases b with h | h | h <;> simp[h]) q;have bj:=bi.trans ah (fun x b=>am x (XBe (by intro y hy;simp only[AD] at hy;rcases hy with h | h | h <;> simp[h]) x b));have bk:=bj.trans (E (by intro x b;simp at b;simp[b]) ai) (fun x b=>.inl b);have bl:=bk.trans (E (by intro x b;simp[b]) ak) (fun x b=>.inl b);have bm:=bl.trans (E (by intro x b;simp[b]) bg) (fun x b=>.inl b);refine⟨rfl,_,_,⟨g,t,p,m,af,Ft,ag,Fm,L0,L1,bf,rfl⟩,⟨au,av,aw,ax,a,az,b0,b1,bd,od,aa,b2,?_⟩,bm,am.trans q.size bh⟩;rw[<- ZA b8]
theorem QBM {w:World} {base s d:Nat} {F:List Nat} {B:Nat} {S:PS} (h:StoreAt w base s d F B S) (a:Good B S k j) (c:k<=50) (f:j<=100000) (g:S.st.mode=1) (e:Nat) (i:e=S.st.epoch+1) :
 Calls prog 26 #[pq s,e] w fun r w'=>r=.returned zz/\∃ b S',StoreAt w' base s d b B S'/\Marked B S e S'/\Keep F w w'/\Grow w F b:=
 KAJ h a (a.room c Z false) f g e i
theorem Xw {w:World} {base d g t p:Nat} {Fd Ft Fw:List Nat} {B:Nat} {D:PDisk} {lv:List Nat} (h:LogIs w base d g t p Fd Ft Fw B D us lv W) (J:∀ x∈D.faults,x=false) (a8:D.faults.length=D.n) (z:W.Ok) (a:Nat) (ha:a<D.n) :
 Calls prog 215 #[pq p,a] w fun e w'=>∃ m o,e=.returned (.tuple #[.slice m 64 o,zz])/\w'.ownsRow w.heap.size 5 1 (.slice m 64 o) 64 (bys (KJ B D W a))/\kz w w':=by
 obtain⟨I,aj,ls,l⟩:=h.wri;obtain⟨ak,bc,rfl,_⟩:=XB l.bls;have K:=l.rws rfl;have A:ls.length=W.blocks.length:=l.len;have a9:ls.length<=6:=by rw[A,z.many];exact AB (YK _) z.few
 obtain⟨p1,p2,_,_,_⟩:=h.pos;have L:=fun U (b:kz w U)=>ZAN (l.blk.kO b) rfl W.pos.seg W.pos.off p1 Z rfl rfl (h.geom.kO b);have aa:=fun U (b:kz w U)=>XAG U base d Fd D (h.disk.kO b) h.off a ha (by rw[AC Z,J _ (AN _)]);have M:=fun U (b:kz w U)=>QE (l.blk.kO b);have N:∀ k (b:k<ls.length),W.blocks[k]? = some ls[k].2:=fun k b=>by rw[<- l.snd,Aa,AC b];rfl
 have O:∀ k (b:k<ls.length),w.ownsRow base 5 1 ls[k].1 64 (bys ls[k].2):=fun k b=>l.dat _ (AN b);have al:=ZD h.geom.pos h.geom.few;have q:=h.many;obtain⟨f,r⟩:=ex (6+4*pgs B+24*W.pos.seg+YC W.pos.off 0);have am:f<=1000:=by rw[r];unfold YC;omega
 have P:KJ B D W a=if f<=a/\a<f+ls.length then W.blocks.getD (a-f) [] else seg 64 D.now a:=by unfold KJ JC;rw[A,r]
 rw[<- r] at L;obtain⟨Q,R,S,T,V,X,Y,c7,c8,C⟩:=M w kq;have an:=ZB r;have a0:=ZB P;have ab:=ZB N;have ac:=ZB O;clear r P N O h l J a8 q z A;have ao:=ZB (show ls.length=ls.length from rfl);obtain⟨n,q⟩:=ex ls.length;rw[<- q] at K C a9;have a1:=ZB q;clear q;go_enter func215,ntmps215
 go_wp2
 go_loopw [6,7,15] (fun _ _ i U=>∃ k:Nat,k<=n/\i=.int .i64 (k:Nat)/\kz w U/\∀ j<k,a≠f+j) (fun _ _ i _=>n-(intOf i).toNat)
 case atStart=>exact⟨0,AP _,rfl,kq,fun j hj=>Z⟩
 clear Q R S T V X Y c7 c8 C;obtain⟨k,b,rfl,c,a2⟩:=hrel;have a3:=ZB a2;clear a2;by_cases a4:k<n
 . have E:k<ls.length:=by rw[<- ZA a1];exact a4
   obtain⟨ap,ar,ad,au,ae,av⟩:=(K.keep c).at_ a4 E;have F:=ZA ac k E;obtain⟨aw,qc,af,_⟩:=XB F;rw[af] at ae F;have ax:((k:Nat):Int)<(n:Nat):=Z
   subst ad;have y:=L wr c;by_cases ag:a=f+k
   . have a5:((a:Nat):Int)=(f:Nat)+(k:Nat):=Z
     have a6:=fun U (ah:kz w U)=>KV qc _ ((Rd.of_own F).keep ah) Z
     go_wp2_with (first
      | (go_at_call 239
         refine y.mono ?_;clear y;rintro e w2 ⟨rfl,s⟩
         replace c:=c.tO s)
      | (go_at_call 238
         refine(a6 _ c).mono ?_;clear a6;rintro e w3 ⟨u,rfl,v,ai,_⟩))
     obtain⟨m,o,rfl,_⟩:=XB v;go_ret2;refine⟨m,o,rfl,?_,c.tO ai⟩
     have G:KJ B D W a=ls[k].2:=by
      rw[ZA a0,AJ ⟨Z,Z⟩,AA,show a-f=k from Z,ZA ab k E];rfl
     rw[G];exact VC v c.size
   have a5:¬ ((a:Nat):Int)=(f:Nat)+(k:Nat):=Z
   have ay:(((a:Nat):Int) == (f:Nat)+(k:Nat))=false:=uq a5
   go_wp2_with (
    (refine y.mono ?_)
    clear y;rintro e w2 ⟨rfl,s⟩)
   go_roundw
   case rel=>
    refine⟨k+1,Z,by go_num,c.tO s,fun j hj=>?_⟩;rcases BG j k with H | H
    . exact ZA a3 j H
    obtain rfl:j=k:=Z
    exact ag
   case measure=>simp[intOf];omega
 obtain rfl:k=n:=Z
 have a7:=aa wr c;obtain⟨Q,R,S,T,V,X,Y,c7,c8,C⟩:=M wr c
 go_wp2_with (
  (refine a7.mono ?_)
  clear a7;rintro e w2 ⟨u,rfl,v,s⟩)
 obtain⟨m,o,rfl,_⟩:=XB v;go_ret2;refine⟨m,o,rfl,?_,c.tO s⟩
 have G:KJ B D W a=seg 64 D.now a:=by
  rw[ZA a0,AF];rintro⟨H,h2⟩;rw[<- ZA a1] at h2;exact ZA a3 (a-f) Z Z
 rw[G];exact VC v c.size
theorem QAU {B:Nat} {S:PS} (b:Good B S k j) (c:RefOk B S a):(ZF B S a).length=64:=by
 unfold ZF
 split
 . simp[zeros64]
 rename_i d
 obtain⟨_,e⟩:=c.resolve_left d;unfold KJ
 split
 . rename_i f
   rw[AA,AC Z];exact b.cap.ok.full _ (AN _)
 exact length_seg 64 _ _ (by have:=e.hi;have:=b.many;rw[b.now];omega)
section
variable (w:World) (base s d:Nat) (F:List Nat) (B:Nat) (S:PS) (h:StoreAt w base s d F B S)
include h
theorem VAK (k j:Nat) (b:Good B S k j) (a:Int) (n:RefOk B S a) :
 Calls prog 112 #[pq s,ii a] w fun e w'=>∃ c d,e=.returned (.tuple #[.slice c 64 d,zz])/\w'.ownsRow w.heap.size 5 1 (.slice c 64 d) 64 (bys (ZF B S a))/\kz w w':=by
 obtain⟨g,t,p,m,Fd,Ft,Fw,Fm,L0,L1,h,rfl⟩:=h;obtain⟨u,v,y,z,A,C,D,E,F,G,H,I,J,K,L,M,N,O⟩:=KC h.blk;rcases n with rfl | ⟨h0,hl⟩
 . have i:ZF B S 0=zeros64:=by unfold ZF;rw[AJ rfl]
   rw[i];clear i b h;go_enter func112,ntmps112;go_wp2_with (at_make;refine elem8.wp_make rfl _ _ rfl .i64 .i64 64 64 64 rfl rfl rfl rfl Z Z ?_);go_ret2;exact⟨some ⟨w.heap.size,0,none⟩,64,rfl,QR (Blk.new w _ _) (AG _) Z sq (by simp[zeros64,bys];rfl),kq.alloc _⟩
 have f:=Xw h.log b.flt b.flen b.cap.ok a.toNat (by have:=hl.hi;have:=b.many;omega)
 rw[show ((a.toNat:Nat):Int)=a from Z] at f;have l:ZF B S a=KJ B S.D S.W a.toNat:=by unfold ZF;rw[AF Z]
 rw[l];have o:¬ a=0:=Z
 have P:(a == 0)=false:=uq o
 clear l b h hl;go_enter func112,ntmps112;go_wp2_with (refine f.mono ?_;clear f;rintro e Q ⟨c,d,rfl,q,r⟩);go_ret2;exact⟨c,d,rfl,q,r⟩
end
theorem Kz {w:World} {base m:Nat} {F:List Nat} {I:PImage} (h:ImageAt w base m F I) (b:Nat) (g:b<I.bl.length) :
 cq 111 #[pq m,b] w (.tuple #[.int .i64 I.bl[b],.bool true]):=by
 obtain⟨c,i,d,j,h⟩:=h;have a:=YR w base m c i F d j I h false;have f:=Jk w base c d I.bl I.bd h.b b g;simp only[Ap,CD] at a;go_enter func111,ntmps111
 go_wp2_with (first
  | (go_at_call 230;refine a.mono ?_;clear a;rintro e w' ⟨rfl,rfl⟩)
  | (refine f.mono ?_;clear f;rintro e w' ⟨rfl,rfl⟩))
 go_ret2;exact⟨rfl,rfl⟩
def YV (I:PImage) (b:Nat):Int:=if I.ol.getD b 0 = -1 then I.bl.getD b 0 else I.ol.getD b 0
theorem Vt {w:World} {base m:Nat} {F:List Nat} {I:PImage} (h:ImageAt w base m F I) (b:Nat) (f:b<I.bl.length) (g:b<I.ol.length) :
 cq 113 #[pq m,b] w (.tuple #[ii (YV I b),.bool true]):=by
 have i:=Kz h b f;obtain⟨n,j,p,k,h⟩:=h;have a:=YR w base m n j F p k I h true;have c:=Jk w base j k I.ol I.od h.o b g;simp only[Bo] at a;have l:YV I b=if I.ol[b] = -1 then I.bl[b] else I.ol[b]:=by unfold YV;rw[Ze g,Ze f]
 rw[l];clear l h;generalize I.ol[b]=o at *;generalize I.bl[b]=bb at *;by_cases d:o = -1
 . subst d
   rw[AJ rfl];go_enter func113,ntmps113
   go_wp2_with (first
    | (go_at_call 230;refine a.mono ?_;clear a;rintro e w' ⟨rfl,rfl⟩)
    | (go_at_call 111;refine i.mono ?_;clear i;rintro e w' ⟨rfl,rfl⟩)
    | (refine c.mono ?_;clear c;rintro e w' ⟨rfl,rfl⟩))
   go_ret2;exact⟨rfl,rfl⟩
 rw[AF d]
 have q:(o == -1)=false:=uq d
 go_enter func113,ntmps113
 go_wp2_with (first
  | (go_at_call 230;refine a.mono ?_;clear a;rintro e w' ⟨rfl,rfl⟩)
  | (refine c.mono ?_;clear c;rintro e w' ⟨rfl,rfl⟩))
 go_ret2;exact⟨rfl,rfl⟩
section
variable (w:World) (base s d:Nat) (F:List Nat) (B:Nat) (S:PS) (h:StoreAt w base s d F B S)
include h
theorem XBQ (k j:Nat) (c:Good B S k j) (b:Nat) (y:b<B) :
 Calls prog 29 #[pq s,b] w fun e w'=>∃ f i,e=.returned (.tuple #[.slice f 64 i,zz])/\w'.ownsRow w.heap.size 5 1 (.slice f 64 i) 64 (bys ((YE B S).getD b []))/\kz w w':=by
 have z:=c.bl;have o:=VAK w base s d F B S h k j c (S.I.bl[b]' Z) (c.brefs _ (AN _))
 have q:(YE B S).getD b []=ZF B S (S.I.bl[b]' Z):=by
  unfold YE;rw[AA,Aa,AC Z];rfl
 rw[q];obtain⟨g,t,p,m,Fd,Ft,Fw,Fm,L0,L1,h,rfl⟩:=h;have l:=Kc w base s d g t p m Fd Ft Fw Fm L0 L1 B S h b 1 Z Z;have n:=JV w base s d g t p m Fd Ft Fw Fm L0 L1 B S h 0 (.inl rfl);have r:=Kz h.img b Z;obtain⟨A,C,D,E,G,H,I,J,K,L,M,N,O,P,Q,R,T,U⟩:=KC h.blk;rw[show ((0:Nat):Int)=0 from rfl] at n;rw[show ((1:Nat):Int)=1 from rfl] at l;clear h q c;generalize S.I.bl[b]'_=a at *;generalize ZF B S a=rr at *;go_enter func29,ntmps29
 go_wp2_with (first
  | (go_at_call 109;refine l.mono ?_;clear l;rintro e w' ⟨rfl,rfl⟩)
  | (go_at_call 93;refine n.mono ?_;clear n;rintro e w' ⟨rfl,rfl⟩)
  | (go_at_call 111;refine r.mono ?_;clear r;rintro e w' ⟨rfl,rfl⟩)
  | (go_at_call 112;refine o.mono ?_;clear o;rintro e V ⟨f,i,rfl,u,v⟩))
 go_ret2;exact⟨f,i,rfl,u,v⟩
theorem KBP (k j:Nat) (c:Good B S k j) (b:Nat) (C:b<B) :
 Calls prog 30 #[pq s,b] w fun e w'=>∃ f i,e=.returned (.tuple #[.slice f 64 i,zz])/\w'.ownsRow w.heap.size 5 1 (.slice f 64 i) 64 (bys (((XF B S).getD b none).getD ((YE B S).getD b [])))/\kz w w':=by
 have D:=c.bl;have E:=c.ol;have l:YV S.I b=if S.I.ol[b]' Z = -1 then S.I.bl[b]' Z else S.I.ol[b]' Z:=by unfold YV;rw[Ze Z,Ze Z]
 have q:RefOk B S (YV S.I b):=by
  rw[l]
  split
  . exact c.brefs _ (AN _)
  rename_i y
  exact(c.orefs _ (AN _)).resolve_left y
 have r:=VAK w base s d F B S h k j c _ q
 have u:((XF B S).getD b none).getD ((YE B S).getD b [])=ZF B S (YV S.I b):=by
  unfold YE XF;rw[AA,Aa,AC Z,AA,Aa,AC Z,l];simp only[Az,Cp]
  split <;> rfl
 rw[u];obtain⟨g,t,p,m,Fd,Ft,Fw,Fm,L0,L1,h,rfl⟩:=h;have n:=Kc w base s d g t p m Fd Ft Fw Fm L0 L1 B S h b 1 Z Z;have o:=JV w base s d g t p m Fd Ft Fw Fm L0 L1 B S h 0 (.inl rfl);have v:=Vt h.img b Z Z;obtain⟨G,H,I,J,K,L,M,N,O,P,Q,R,T,U,V,W,X,Y⟩:=KC h.blk;rw[show ((0:Nat):Int)=0 from rfl] at o;rw[show ((1:Nat):Int)=1 from rfl] at n;clear h u c l q;generalize YV S.I b=a at *;generalize ZF B S a=rr at *;go_enter func30,ntmps30
 go_wp2_with (first
  | (go_at_call 109;refine n.mono ?_;clear n;rintro e w' ⟨rfl,rfl⟩)
  | (go_at_call 93;refine o.mono ?_;clear o;rintro e w' ⟨rfl,rfl⟩)
  | (go_at_call 113;refine v.mono ?_;clear v;rintro e w' ⟨rfl,rfl⟩)
  | (go_at_call 112;refine r.mono ?_;clear r;rintro e w2 ⟨f,i,rfl,z,A⟩))
 go_ret2;exact⟨f,i,rfl,z,A⟩