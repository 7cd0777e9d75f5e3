/- Lemmas of the proof, with their conditions. -/
import Derived.Test.YtfedaknhecbehaaGreatL21
import Derived.Test.YtfedaknhecbehaaGreatL28
namespace Go.Proofs.YtfedaknhecbehaaGreat
open Tryz Go.RowKit Go.Shelf
variable {a b k j n e i len r:Nat} {bs:List UInt8} {A:Option Addr} {zs:List (Int×Int×Int)} {v:Value}
set_option linter.all false
set_option maxHeartbeats 8000000
set_option maxRecDepth 20000
structure PSt where
 mode:Nat
 view:Nat
 epoch:Nat
 seq:Nat
 done:Nat
 mount:Nat
 gen:Nat
structure PS where
 D:PDisk
 us:List (Nat×Nat)
 lv:List Nat
 W:PW
 I:PImage
 st:PSt
 slot:Nat
 lie0:List Nat
 lie1:List Nat
def PSt.cs (s:PSt):List Value:=[.int .i64 s.mode,.int .i64 s.view,.int .i64 s.epoch,.int .i64 s.seq,.int .i64 s.done,.int .i64 s.mount,.int .i64 s.gen]
structure StoreIs (w:World) (base s d g t p m:Nat) (Fd Ft Fw Fm:List Nat) (L0 L1:Value) (B:Nat) (S:PS):Prop where
 blk:Blk w s 146 #[pq d,pq g,pq t,pq m,pq p,
  .int .i64 S.st.mode,ii S.st.view,ii S.st.epoch,ii S.st.seq,ii S.st.done,ii S.st.mount,ii S.st.gen,zz,zz,zz,ii S.slot,L0,L1]
 log:LogIs w base d g t p Fd Ft Fw B S.D S.us S.lv S.W
 img:ImageAt w base m Fm S.I
 blen:S.I.bl.length=B
 l0:w.ownsRow base 3 1 L0 (pgs B) (YL S.lie0)
 l1:w.ownsRow base 3 1 L1 (pgs B) (YL S.lie1)
 sbase:base<=s
 gbase:base<=g
 apm:Apart Fm (g :: (Fd++(Ft++Fw)))
 aps:s∉g :: (Fd++(Ft++(Fw++Fm)))
 apl:Apart (L0.ownBlock.toList++L1.ownBlock.toList) (s :: g :: (Fd++(Ft++(Fw++Fm))))
def ZN (s g:Nat) (Fd Ft Fw Fm:List Nat) (L0 L1:Value):List Nat:=s :: g :: (Fd++(Ft++(Fw++(Fm++(L0.ownBlock.toList++L1.ownBlock.toList)))))
def StoreAt (w:World) (base s d:Nat) (F:List Nat) (B:Nat) (S:PS):Prop:=∃ g t p m Fd Ft Fw Fm L0 L1,StoreIs w base s d g t p m Fd Ft Fw Fm L0 L1 B S/\F=ZN s g Fd Ft Fw Fm L0 L1
namespace StoreIs
variable {w w':World} {base s d g t p m:Nat} {Fd Ft Fw Fm l:List Nat} {L0 L1:Value} {B:Nat} {S:PS}
theorem keep (h:StoreIs w base s d g t p m Fd Ft Fw Fm L0 L1 B S) (c:Keep l w w') (e:Apart (ZN s g Fd Ft Fw Fm L0 L1) l):StoreIs w' base s d g t p m Fd Ft Fw Fm L0 L1 B S:=by
 have b:∀ x,x=s\/x=g\/x∈Fd\/x∈Ft\/x∈Fw\/x∈Fm\/x∈L0.ownBlock.toList\/x∈L1.ownBlock.toList->x∉l:=fun x a=>e x (by simpa only[ZN,AM,AD] using a)
 exact⟨h.blk.keep c (b _ sq),h.log.keep c (b _ sq) (fun x a=>b x (by simp[a])) (fun x a=>b x (by simp[a])) (fun x a=>b x (by simp[a])),h.img.keep c (fun x a=>b x (by simp[a])),h.blen,
  XB h.l0 c (fun x a=>b x (by simp[a])),XB h.l1 c (fun x a=>b x (by simp[a])),h.sbase,h.gbase,h.apm,h.aps,h.apl⟩
theorem kO (h:StoreIs w base s d g t p m Fd Ft Fw Fm L0 L1 B S) (a:kz w w'):StoreIs w' base s d g t p m Fd Ft Fw Fm L0 L1 B S:=h.keep a Apart.nil_right
theorem lt (h:StoreIs w base s d g t p m Fd Ft Fw Fm L0 L1 B S):∀ x∈ZN s g Fd Ft Fw Fm L0 L1,x<w.heap.size:=by
 intro x a;simp only[ZN,AM,AD] at a;rcases a with rfl | rfl | a | a | a | a | a | a
 . exact h.blk.lt
 . exact h.log.geom.lt
 . exact h.log.disk.lt x a
 . exact h.log.tab.lt x a
 . exact h.log.wri.lt x a
 . exact h.img.lt x a
 . exact(own_mem h.l0 a).2
 exact(own_mem h.l1 a).2
theorem ge (h:StoreIs w base s d g t p m Fd Ft Fw Fm L0 L1 B S):∀ x∈ZN s g Fd Ft Fw Fm L0 L1,base<=x:=by
 intro x a;simp only[ZN,AM,AD] at a;rcases a with rfl | rfl | a | a | a | a | a | a
 . exact h.sbase
 . exact h.gbase
 . exact h.log.disk.ge x a
 . exact h.log.tab.ge x a
 . exact h.log.wri.ge x a
 . exact h.img.ge x a
 . exact(own_mem h.l0 a).1
 exact(own_mem h.l1 a).1
theorem setLog (h:StoreIs w base s d g t p m Fd Ft Fw Fm L0 L1 B S) {j Fw':List Nat} {D':PDisk} {o:List (Nat×Nat)} {r:List Nat} {W':PW} (y:LogIs w' base d g t p j Ft Fw' B D' o r W') (k:Keep (Fd++(Ft++Fw)) w w') (l:Grow w Fd j) (n:Grow w Fw Fw') :
 StoreIs w' base s d g t p m j Ft Fw' Fm L0 L1 B { S with D:=D',us:=o,lv:=r,W:=W' }/\Grow w (ZN s g Fd Ft Fw Fm L0 L1) (ZN s g j Ft Fw' Fm L0 L1):=by
 have z:∀ x,x∈Fd++(Ft++Fw)->x≠s:=fun x b e=>h.aps (by subst e;simp only[AM,AD] at b ⊢;rcases b with b | b | b <;> simp[b]);have C:∀ x∈Fm,x∉Fd++(Ft++Fw):=fun x b a=>h.apm x b (Av _ a);have u:∀ x∈L0.ownBlock.toList++L1.ownBlock.toList,x∉Fd++(Ft++Fw):=fun x b a=>h.apl x b (by simp only[AM,AD] at a ⊢;rcases a with a | a | a <;> simp[a]);have f:∀ {A A':List Nat} {x:Nat},Grow w A A'->x<w.heap.size->x∉A->x∉A':=fun E b F a=>(E _ a).elim F Z;have v:=h.blk.lt;refine⟨⟨h.blk.keep k (fun a=>z _ a rfl),y,h.img.keep k C,h.blen,XB h.l0 k (fun x b=>u x (BB _ (uq b))),XB h.l1 k (fun x b=>u x (BQ _ (uq b))),h.sbase,h.gbase,?_,?_,?_⟩,?_⟩
 . intro x b a
   have i:=h.img.lt x b;have c:=h.apm x b;simp only[AM,AD,DH] at c a;rcases a with a | a | a | a
   . exact c.1 a
   . exact f l i c.2.1 a
   . exact c.2.2.1 a
   exact f n i c.2.2.2 a
 . intro a
   have c:=h.aps;simp only[AM,AD,DH] at c a;rcases a with a | a | a | a | a
   . exact c.1 a
   . exact f l v c.2.1 a
   . exact c.2.2.1 a
   . exact f n v c.2.2.2.1 a
   exact c.2.2.2.2 a
 . intro x b a
   have i:x<w.heap.size:=by
    rcases AD.1 b with b | b
    . exact(own_mem h.l0 b).2
    exact(own_mem h.l1 b).2
   have c:=h.apl x b;simp only[AM,AD,DH] at c a;rcases a with a | a | a | a | a | a
   . exact c.1 a
   . exact c.2.1 a
   . exact f l i c.2.2.1 a
   . exact c.2.2.2.1 a
   . exact f n i c.2.2.2.2.1 a
   exact c.2.2.2.2.2 a
 intro x b;simp only[ZN,AM,AD] at b ⊢;rcases b with b | b | b | b | b | b | b | b
 . simp[b]
 . simp[b]
 . exact(l x b).imp (fun h=>by simp[h]) id
 . simp[b]
 . exact(n x b).imp (fun h=>by simp[h]) id
 . simp[b]
 . simp[b]
 simp[b]
theorem setImg (h:StoreIs w base s d g t p m Fd Ft Fw Fm L0 L1 B S) {I':PImage} (hi:ImageAt w' base m Fm I') (i:I'.bl.length=S.I.bl.length) (c:Keep Fm w w') :
 StoreIs w' base s d g t p m Fd Ft Fw Fm L0 L1 B { S with I:=I' }:=by
 have b:∀ x,x∈s :: g :: (Fd++(Ft++Fw))->x∉Fm:=fun x a e=>by
  rcases AM.1 a with rfl | a
  . exact h.aps (by simp[e])
  exact h.apm x e a
 have f:∀ x∈L0.ownBlock.toList++L1.ownBlock.toList,x∉Fm:=fun x a e=>h.apl x a (by simp[e])
 exact⟨h.blk.keep c (b _ sq),h.log.keep c (b _ sq) (fun x a=>b x (by simp[a])) (fun x a=>b x (by simp[a])) (fun x a=>b x (by simp[a])),hi,i.trans h.blen,
  XB h.l0 c (fun x a=>f x (BB _ (uq a))),XB h.l1 c (fun x a=>f x (BQ _ (uq a))),h.sbase,h.gbase,h.apm,h.aps,h.apl⟩
theorem setSt (h:StoreIs w base s d g t p m Fd Ft Fw Fm L0 L1 B S) (st:PSt) (i:Blk w' s 146 #[pq d,pq g,pq t,pq m,pq p,
 .int .i64 st.mode,ii st.view,ii st.epoch,ii st.seq,ii st.done,ii st.mount,ii st.gen,zz,zz,zz,ii S.slot,L0,L1]) (e:Keep [s] w w') :
 StoreIs w' base s d g t p m Fd Ft Fw Fm L0 L1 B { S with st:=st }:=by
 have b:∀ x,x∈g :: (Fd++(Ft++(Fw++Fm)))->x∉[s]:=fun x a c=>by
  simp at c;subst c;exact h.aps a
 have f:∀ x∈L0.ownBlock.toList++L1.ownBlock.toList,x∉[s]:=fun x a c=>h.apl x a (by simp at c;simp[c])
 exact⟨i,h.log.keep e (b _ sq) (fun x a=>b x (by simp[a])) (fun x a=>b x (by simp[a])) (fun x a=>b x (by simp[a])),h.img.keep e (fun x a=>b x (by simp[a])),h.blen,
  XB h.l0 e (fun x a=>f x (BB _ (uq a))),XB h.l1 e (fun x a=>f x (BQ _ (uq a))),h.sbase,h.gbase,h.apm,h.aps,h.apl⟩
end StoreIs
namespace StoreAt
variable {w w':World} {base s d:Nat} {F l:List Nat} {B:Nat} {S:PS}
theorem keep (h:StoreAt w base s d F B S) (a:Keep l w w') (b:Apart F l):StoreAt w' base s d F B S:=by
 obtain⟨g,t,p,m,Fd,Ft,Fw,Fm,L0,L1,h,rfl⟩:=h;exact⟨g,t,p,m,Fd,Ft,Fw,Fm,L0,L1,h.keep a b,rfl⟩
theorem kO (h:StoreAt w base s d F B S) (a:kz w w'):StoreAt w' base s d F B S:=h.keep a Apart.nil_right
theorem lt (h:StoreAt w base s d F B S):∀ x∈F,x<w.heap.size:=by obtain⟨g,t,p,m,Fd,Ft,Fw,Fm,L0,L1,h,rfl⟩:=h;exact h.lt
theorem ge (h:StoreAt w base s d F B S):∀ x∈F,base<=x:=by obtain⟨g,t,p,m,Fd,Ft,Fw,Fm,L0,L1,h,rfl⟩:=h;exact h.ge
end StoreAt
theorem KC {w:World} {g:Nat} {t:TypeId} {a b c d e f i j k l m n o p r s u v:Value} (h:Blk w g t #[a,b,c,d,e,f,i,j,k,l,m,n,o,p,r,s,u,v]) :
 cl w g a/\cl w (aq g 1) b/\cl w (aq g 2) c/\cl w (aq g 3) d/\cl w (aq g 4) e/\cl w (aq g 5) f/\cl w (aq g 6) i/\cl w (aq g 7) j/\cl w (aq g 8) k/\cl w (aq g 9) l /\
 cl w (aq g 10) m/\cl w (aq g 11) n/\cl w (aq g 12) o/\cl w (aq g 13) p/\cl w (aq g 14) r/\cl w (aq g 15) s/\cl w (aq g 16) u/\cl w (aq g 17) v:=
 ⟨uq (h.cell 0),uq (h.cell 1),uq (h.cell 2),uq (h.cell 3),uq (h.cell 4),uq (h.cell 5),uq (h.cell 6),uq (h.cell 7),uq (h.cell 8),uq (h.cell 9),
   uq (h.cell 10),uq (h.cell 11),uq (h.cell 12),uq (h.cell 13),uq (h.cell 14),uq (h.cell 15),uq (h.cell 16),uq (h.cell 17)⟩
def Kg (B:Nat) (lv:List Nat) (a:Nat) (gone:List Int):List Nat:=
 gone.foldl (fun lv x=>if 0<x then XO lv ((x.toNat-(6+4*pgs B)) / 24) (-1) else lv) (if a=0 then lv else XO lv ((a-(6+4*pgs B)) / 24) 1)
def Wrote (B:Nat) (S:PS) (b:Nat) (bs:List UInt8) (S':PS):Prop:=
 ∃ D' us' lv1 W' a,Added B S.D S.us S.lv S.W ⟨1,b,0,0⟩ bs D' us' lv1 W' a /\
   S'={ S with D:=D',us:=us',lv:=Kg B lv1 a [QF (S.I.ol.getD b 0) a],W:=W',I:={ S.I with ol:=S.I.ol.set b a,od:=KF S.I.ol S.I.od b a },st:={ S.st with seq:=S.st.seq+1 } }
def Trimmed (B:Nat) (S:PS) (b n:Nat) (S':PS):Prop:=
 ∃ D' us' lv1 W' a,Added B S.D S.us S.lv S.W ⟨2,b,n,0⟩ [] D' us' lv1 W' a /\
   S'={ S with D:=D',us:=us',lv:=Kg B lv1 0 (XF b n S.I.ol S.I.od).1,W:=W',I:={ S.I with ol:=(XF b n S.I.ol S.I.od).2.1,od:=(XF b n S.I.ol S.I.od).2.2 },st:={ S.st with seq:=S.st.seq+1 } }
def Marked (B:Nat) (S:PS) (e:Nat) (S':PS):Prop:=
 ∃ D1 us1 lv1 W1 a D2 us2 W2 bd od,Added B S.D S.us S.lv S.W ⟨3,0,0,e⟩ [] D1 us1 lv1 W1 a/\Emitted B D1 us1 W1 D2 us2 W2 /\
   S'={ S with D:=D2.flush,us:=us2,lv:=Kg B lv1 0 (QAD S.I.bl S.I.ol S.I.ol.length),W:=W2,I:=⟨Xv S.I.bl S.I.ol S.I.ol.length,bd,Ql S.I.ol S.I.ol.length,od⟩,st:={ S.st with epoch:=e,seq:=S.st.seq+1,done:=S.st.seq+1 } }
def RefOk (B:Nat) (S:PS) (a:Int):Prop:=a=0\/(0<a/\Lies B S.us S.W a.toNat)
def zeros64:List UInt8:=List.replicate 64 0
def ZF (B:Nat) (S:PS) (a:Int):List UInt8:=if a=0 then zeros64 else JK B S.D S.W a.toNat
structure Good (B:Nat) (S:PS) (k j:Nat):Prop where
 cap:Cap S.D S.us S.W k j
 now:S.D.now.length=S.D.n*64
 many:S.D.n=198+4*pgs B
 flt:∀ x∈S.D.faults,x=false
 flen:S.D.faults.length=S.D.n
 b1:1<=B
 b64:B<=64
 bl:S.I.bl.length=B
 ol:S.I.ol.length=B
 brefs:∀ x∈S.I.bl,RefOk B S x
 orefs:∀ x∈S.I.ol,x = -1\/RefOk B S x
 seq:S.st.seq<=j
 epoch:S.st.epoch<=j
 done:S.st.done<=S.st.seq
def QD (B:Nat) (S:PS):List (List UInt8):=S.I.bl.map (ZF B S)
def JF (B:Nat) (S:PS):List (Option (List UInt8)):=S.I.ol.map (fun a=>if a = -1 then none else some (ZF B S a))
theorem Xr {B:Nat} {S S':PS} (h:∀ x,Lies B S.us S.W x->Lies B S'.us S'.W x/\JK B S'.D S'.W x=JK B S.D S.W x) {a:Int} (b:RefOk B S a):RefOk B S' a/\ZF B S' a=ZF B S a:=by
 rcases b with rfl | ⟨h0,hl⟩
 . exact⟨.inl rfl,rfl⟩
 obtain⟨c,d⟩:=h _ hl;exact⟨.inr ⟨h0,c⟩,by unfold ZF;rw[AL Z,AL Z];exact d⟩
theorem QT {B:Nat} {S S':PS} (h:∀ x,Lies B S.us S.W x->Lies B S'.us S'.W x/\JK B S'.D S'.W x=JK B S.D S.W x) {l:List Int} (c:∀ a∈l,RefOk B S a):(∀ a∈l,RefOk B S' a)/\l.map (ZF B S')=l.map (ZF B S):=
 ⟨fun a b=>(Xr h (c a b)).1,DE fun a b=>(Xr h (c a b)).2⟩
theorem YQ {B:Nat} {S S':PS} (h:∀ x,Lies B S.us S.W x->Lies B S'.us S'.W x/\JK B S'.D S'.W x=JK B S.D S.W x) {l:List Int} (d:∀ a∈l,a = -1\/RefOk B S a) :
 (∀ a∈l,a = -1\/RefOk B S' a)/\l.map (fun a=>if a = -1 then none else some (ZF B S' a))=l.map (fun a=>if a = -1 then none else some (ZF B S a)):=
 ⟨fun a b=>(d a b).imp id (fun c=>(Xr h c).1),DE fun a b=>by
   rcases d a b with rfl | c
   . rfl
   rw[(Xr h c).2]⟩
theorem RefOk.range {B:Nat} {S:PS} {a:Int} (h:RefOk B S a) (b:B<=64):0<=a/\a<4096:=by
 rcases h with rfl | ⟨h0,hl⟩
 . omega
 have:=hl.hi;have:pgs B<=5:=by unfold pgs;omega
 omega
theorem Wrote.goodG {B:Nat} {S S':PS} (h:Wrote B S b bs S') (c:Good B S k j) (f:KO S.us S.W (ZM ⟨1,b,0,0⟩)) (z:b<B) (s:bs.length=64) :
 Good B S' (k+1) (j+1)/\QD B S'=QD B S/\JF B S'=(JF B S).set b (some bs)/\S'.st={ S.st with seq:=S.st.seq+1 }:=by
 obtain⟨D',e,A,W',a,g,rfl⟩:=h;have t:PItem.May ⟨1,b,0,0⟩:=.inl ⟨.inl rfl,by have:=c.b64;simp only;omega,rfl,rfl⟩;have u:=c.cap.addedG f t (fun _=>s) g;obtain⟨v,i,l,m,w⟩:=g.readsG c.cap f c.now c.many;obtain⟨n,y⟩:=w rfl;have o:∀ x,Lies B S.us S.W x->Lies B e W' x/\JK B D' W' x=JK B S.D S.W x:=fun x d=>⟨(m x d).1,(m x d).2.1⟩;have p:=QT (B:=B) (S:=S) (S':={ S with D:=D',us:=e,W:=W' }) o c.brefs;have r:=YQ (B:=B) (S:=S) (S':={ S with D:=D',us:=e,W:=W' }) o c.orefs;have C:a≠0:=by have:=n.lo;omega
 refine⟨⟨u,v,i.trans c.many,by simp only;rw[l];exact c.flt,by simp only;rw[l,i];exact c.flen,c.b1,c.b64,c.bl,uq c.ol,p.1,?_,by have:=c.seq;simp only;omega,by have:=c.epoch;simp only;omega,by have:=c.done;simp only;omega⟩,p.2,?_,rfl⟩
 . intro x d
   rcases AW d with d | rfl
   . exact r.1 x d
   exact .inr (.inr ⟨Z,uq n⟩)
 unfold JF;simp only;rw[CV]
 congr 1
 . exact r.2
 rw[AL Z];unfold ZF;rw[AL Z];simp only[BK];rw[y]
theorem Wrote.good {B:Nat} {S S':PS} (h:Wrote B S b bs S') (a:Good B S k j) (c:k<=50) (d:b<B) (e:bs.length=64) :
 Good B S' (k+1) (j+1)/\QD B S'=QD B S/\JF B S'=(JF B S).set b (some bs)/\S'.st={ S.st with seq:=S.st.seq+1 }:=
 Wrote.goodG h a (a.cap.frees c (by unfold ZM;split <;> omega)) d e
theorem VY (b n:Nat) (l:List Int) (ds:List Bool) (x:Nat):(XF b n l ds).2.1[x]? = if b<=x/\x<b+n/\x<l.length then some 0 else l[x]? := by
 induction n with
 | zero=>rw[AL Z];rfl
 | succ n ih=>
   rw[KS];have c:((XN b (XF b n l ds) n).2.1)=(XF b n l ds).2.1.set (b+n) 0:=rfl;rw[c,BT,ih];have d:=(KH b n l ds).1;rw[d]
   split
   . rename_i e
     subst e;by_cases a:b+n<l.length
     . rw[AP a,AP Z]
     rw[AL a,AL Z,BF Z]
   rename_i e;by_cases a:b<=x/\x<b+n/\x<l.length
   . rw[AP a,AP Z]
   rw[AL a,AL Z]
def XP {α:Type} (l:List α) (b n:Nat) (v:α):List α:=(List.range l.length).map fun x=>if b<=x/\x<b+n then v else l.getD x v
theorem YS {c:Type} (l:List c) (b n:Nat) (v:c) (x:Nat):(XP l b n v)[x]? = if b<=x/\x<b+n/\x<l.length then some v else l[x]? := by
 unfold XP;rw[Aa];by_cases a:x<l.length
 . rw[DF a]
   simp only[Ao]
   split
   . rw[AP Z]
   rw[AL Z,AB,AC a];rfl
 rw[BF (uq a),AL Z,BF Z];rfl
theorem Trimmed.goodG {B:Nat} {S S':PS} (h:Trimmed B S b n S') (c:Good B S k j) (f:KO S.us S.W (ZM ⟨2,b,n,0⟩)) (t:1<=n) (A:b+n<=B) :
 Good B S' (k+1) (j+1)/\QD B S'=QD B S/\JF B S'=XP (JF B S) b n (some zeros64)/\S'.st={ S.st with seq:=S.st.seq+1 }:=by
 obtain⟨D',e,C,W',a,g,rfl⟩:=h;have u:PItem.May ⟨2,b,n,0⟩:=.inr (.inl ⟨.inl rfl,by have:=c.b64;simp only;omega,t,by have:=c.b64;simp only;omega,rfl⟩);have v:=c.cap.addedG f u (fun h=>by cases h) g;obtain⟨w,l,m,o,E⟩:=g.readsG c.cap f c.now c.many;have p:∀ x,Lies B S.us S.W x->Lies B e W' x/\JK B D' W' x=JK B S.D S.W x:=fun x d=>⟨(o x d).1,(o x d).2.1⟩;have r:=QT (B:=B) (S:=S) (S':={ S with D:=D',us:=e,W:=W' }) p c.brefs;have s:=YQ (B:=B) (S:=S) (S':={ S with D:=D',us:=e,W:=W' }) p c.orefs;have y:=c.ol;have z:=(KH b n S.I.ol S.I.od).1;refine⟨⟨v,w,l.trans c.many,by simp only;rw[m];exact c.flt,by simp only;rw[m,l];exact c.flen,c.b1,c.b64,c.bl,by simp only;rw[z];exact y,r.1,?_,by have:=c.seq;simp only;omega,by have:=c.epoch;simp only;omega,by have:=c.done;simp only;omega⟩,r.2,?_,rfl⟩
 . intro x d
   obtain⟨i,hi⟩:=Cj d;rw[VY] at hi
   split at hi
   . cases hi;exact .inr (.inl rfl)
   exact s.1 x (Bn hi)
 apply Bs;intro x;rw[YS];unfold JF;simp only[Aa,BR];rw[VY]
 split
 . rfl
 rw[<- Aa,<- Aa];exact congrArg (·[x]?) s.2
theorem Trimmed.good {B:Nat} {S S':PS} (h:Trimmed B S b n S') (a:Good B S k j) (c:k<=50) (d:1<=n) (e:b+n<=B) :
 Good B S' (k+1) (j+1)/\QD B S'=QD B S/\JF B S'=XP (JF B S) b n (some zeros64)/\S'.st={ S.st with seq:=S.st.seq+1 }:=
 Trimmed.goodG h a (a.cap.frees c (by unfold ZM;split <;> omega)) d e
def JR (base:List (List UInt8)) (over:List (Option (List UInt8))):List (List UInt8):=List.zipWith (fun b o=>o.getD b) base over
theorem Vn {a ol:List Int} (h:a.length=ol.length):Xv a ol ol.length=List.zipWith (fun b o=>if o = -1 then b else o) a ol:=by
 unfold Xv;rw[AH (by simp;omega),BM Z,Ba]
theorem VP (ol:List Int):Ql ol ol.length=List.replicate ol.length (-1):=by
 unfold Ql;rw[BM Z,Ba]
theorem Marked.goodG {B:Nat} {S S':PS} (h:Marked B S e S') (b:Good B S k j) (p:KO S.us S.W (ZM ⟨3,0,0,e⟩)) (C:1<=e/\e<=j+1) (T:j<=100000) :
 Good B S' (k+1) (j+2)/\QD B S'=JR (QD B S) (JF B S)/\JF B S'=List.replicate B none/\S'.st={ S.st with epoch:=e,seq:=S.st.seq+1,done:=S.st.seq+1 }:=by
 obtain⟨U,V,X,Y,a,c,g,f,bd,od,r,m,rfl⟩:=h;have E:PItem.May ⟨3,0,0,e⟩:=.inr (.inr (.inl ⟨rfl,rfl,rfl,C.1,by simp only;omega⟩));have l:=b.cap.addedG p E (fun h=>by cases h) r;obtain⟨F,n,s,G,r5⟩:=r.readsG b.cap p b.now b.many;have H:=l.mark m 1 Z c.flush (by show c.acts+1<=_;omega);obtain⟨I,J⟩:=m.reads l.ok F (n.trans b.many) l.seg l.off;obtain⟨_,_,_,_,_,_,_,_,_,_,_,t,_,_,w⟩:=m.facts l.ok
 have y:∀ x,Lies B S.us S.W x->Lies B g f x/\JK B c.flush f x=JK B S.D S.W x:=by
  intro x d;obtain⟨K,L,_⟩:=G x d;obtain⟨b1,M⟩:=J x K;exact⟨b1,M.trans L⟩
 have z:=QT (B:=B) (S:=S) (S':={ S with D:=c.flush,us:=g,W:=f }) y b.brefs;have A:=YQ (B:=B) (S:=S) (S':={ S with D:=c.flush,us:=g,W:=f }) y b.orefs;have a0:=b.bl;have N:=b.ol;have o:S.I.bl.length=S.I.ol.length:=Z;refine⟨⟨H,I,(t.trans n).trans b.many,?_,?_,b.b1,b.b64,?_,?_,?_,?_,by have:=b.seq;simp only;omega,by simp only;omega,by simp only;omega⟩,?_,?_,rfl⟩
 . show ∀ x∈c.faults,x=false
   rw[w,s];exact b.flt
 . show c.faults.length=c.n
   rw[w,s,t,n];exact b.flen
 . simp only;rw[Vn o];simp;omega
 . simp only;rw[VP];simp;omega
 . intro x d
   simp only at d;rw[Vn o] at d;obtain⟨i,hi⟩:=Cj d;rw[C0] at hi
   split at hi
   . rename_i u v O P
     simp only[Ae] at hi;subst hi
     split
     . exact z.1 u (Bn O)
     exact(A.1 v (Bn P)).resolve_left (by assumption)
   cases hi
 . intro x d
   simp only at d;rw[VP] at d;exact .inl (AV d)
 . have Q:QD B S=S.I.bl.map (ZF B { S with D:=c.flush,us:=g,W:=f }):=z.2.symm
   have R:JF B S=S.I.ol.map (fun a=>if a = -1 then none else some (ZF B { S with D:=c.flush,us:=g,W:=f } a)):=A.2.symm;rw[Q,R];unfold QD JR;simp only;rw[Vn o];apply Bs;intro i;simp only[Aa,C0];rcases S.I.bl[i]? with _ | u <;> rcases S.I.ol[i]? with _ | v
   . rfl
   . rfl
   . rfl
   simp only[Ao,Ae]
   split <;> rfl
 unfold JF;simp only;rw[VP,C3,AP rfl,N]
theorem Marked.good {B:Nat} {S S':PS} (h:Marked B S e S') (a:Good B S k j) (b:k<=50) (c:1<=e/\e<=j+1) (d:j<=100000) :
 Good B S' (k+1) (j+2)/\QD B S'=JR (QD B S) (JF B S)/\JF B S'=List.replicate B none/\S'.st={ S.st with epoch:=e,seq:=S.st.seq+1,done:=S.st.seq+1 }:=
 Marked.goodG h a (a.cap.frees b (by unfold ZM;split <;> omega)) c d
def Vg (B:Nat) (o:POp):Prop:=
 (o.k=1/\0<=o.b/\o.b<B/\o.d.length=64)\/(o.k=2/\0<=o.b/\1<=o.c/\o.b+o.c<=B)\/(o.k=3/\1<=o.e/\o.e<=2147483647)
def Does (B:Nat) (S:PS) (o:POp) (S':PS):Prop:=
 (o.k=1/\Wrote B S o.b.toNat o.d S')\/(o.k=2/\Trimmed B S o.b.toNat o.c.toNat S')\/(o.k=3/\o.e=S.st.epoch+1/\Marked B S o.e.toNat S')
theorem Good.mono {B:Nat} {S:PS} {b c:Nat} (h:Good B S k j) (d:k<=b) (a:j<=c):Good B S b c:=
 ⟨h.cap.mono d a,h.now,h.many,h.flt,h.flen,h.b1,h.b64,h.bl,h.ol,h.brefs,h.orefs,AA h.seq a,AA h.epoch a,h.done⟩
def QAW (st:PSt) (o:POp):PSt:=if o.k=3 then { st with epoch:=st.epoch+1,seq:=st.seq+1,done:=st.seq+1 } else { st with seq:=st.seq+1 }
theorem Does.good {B:Nat} {S S':PS} {o:POp} (h:Does B S o S') (l:Vg B o) (c:Good B S k j) (f:k<=50) (n:j<=100000):Good B S' (k+1) (j+2)/\S'.st=QAW S.st o:=by
 rcases h with⟨g,d⟩ | ⟨g,d⟩ | ⟨g,d,p⟩
 . rcases l with⟨_,r,s,m⟩ | ⟨i,_⟩ | ⟨i,_⟩
   . obtain⟨a,_,_,b⟩:=d.good c f Z m
     exact⟨a.mono (AG _) Z,by rw[b,QAW,AL Z]⟩
   . omega
   omega
 . rcases l with⟨i,_⟩ | ⟨_,r,s,m⟩ | ⟨i,_⟩
   . omega
   . obtain⟨a,_,_,b⟩:=d.good c f Z Z
     exact⟨a.mono (AG _) Z,by rw[b,QAW,AL Z]⟩
   omega
 have t:=c.epoch;obtain⟨a,_,_,b⟩:=p.good c f Z n;have e:o.e.toNat=S.st.epoch+1:=Z;exact⟨a.mono (AG _) Z,by rw[b,QAW,AP g,e]⟩
structure RS where
 S:PS
 next:Nat
 sl:List PSlot
def RS.cur (R:RS):PSlot:=R.sl.getD (R.next % R.sl.length) PSlot.none_
def RS.cut (R:RS):List PSlot:=R.sl.set (R.next % R.sl.length) PSlot.none_
inductive Ran (B:Nat):RS->RS->Nat->Prop
 | stop {R:RS}:R.cur.is=false->Ran B R R 0
 | bad {R:RS}:R.cur.is=true->R.cur.o.k=3->R.cur.o.e≠R.S.st.epoch+1->Ran B R ⟨R.S,R.next,R.cut⟩ 1
 | step {R R':RS} {S':PS} {e:Nat}:R.cur.is=true->Does B R.S R.cur.o S'->Ran B ⟨S',R.next+1,R.cut⟩ R' e->Ran B R R' e
def QH (sl:List PSlot):Nat:=sl.countP (·.is)
theorem YAW {b:List PSlot} (hi:i<b.length) (h:b[i].is=true):QH (b.set i PSlot.none_)+1=QH b:=by
 unfold QH;have:=List.countP_set (p:=(·.is)) (l:=b) (i:=i) (a:=PSlot.none_) hi;have c:1<=b.countP (·.is):=B7.2 ⟨b[i],AQ _,h⟩;rw[this,AP h];simp[PSlot.none_];omega
theorem KAi (a:List PSlot):QH a<=a.length:=C1
def XH (m:Nat):List PSlot:=List.replicate m PSlot.none_
theorem KAo {m:Nat}:(XH m).set i PSlot.none_=XH m:=by simp[XH]
theorem ZBM (S:PS) (n m:Nat):(⟨S,n,XH m⟩:RS).cur=PSlot.none_:=by
 unfold RS.cur XH;simp only[AB,Ay]
 split <;> rfl
theorem VAw {B:Nat} {S:PS} {m:Nat} {a:RS} (h:Ran B ⟨S,n,XH m⟩ a e):a=⟨S,n,XH m⟩/\e=0:=by
 have b:=ZBM S n m
 cases h with
 | stop _=>exact⟨rfl,rfl⟩
 | bad h _ _=>rw[b] at h;cases h
 | step h _ _=>rw[b] at h;cases h
theorem QBl {B:Nat} {S:PS} {m:Nat} {q:PSlot} {a:RS} (f:1<=m) (g:q.is=true) (h:Ran B ⟨S,n,(XH m).set (n % m) q⟩ a e) :
 (q.o.k=3/\q.o.e≠S.st.epoch+1/\e=1/\a=⟨S,n,XH m⟩)\/∃ S',Does B S q.o S'/\e=0/\a=⟨S',n+1,XH m⟩:=by
 have c:((XH m).set (n % m) q).length=m:=by simp[XH]
 have i:n % m<m:=CP _ f
 have b:(⟨S,n,(XH m).set (n % m) q⟩:RS).cur=q:=by
  unfold RS.cur;simp only;rw[c,AB,List.getElem?_set_self (by simpa [XH] using i)];rfl
 have d:(⟨S,n,(XH m).set (n % m) q⟩:RS).cut=XH m:=by
  unfold RS.cut;simp only;rw[c,List.set_set];exact KAo
 cases h with
 | stop h=>rw[b,g] at h;cases h
 | bad _ h2 h3=>rw[b] at h2 h3;rw[d];exact .inl ⟨h2,h3,rfl,rfl⟩
 | step _ h2 h3=>
   rw[b] at h2;rw[d] at h3;obtain⟨j,k⟩:=VAw h3;exact .inr ⟨_,h2,k,j⟩
def QO (B:Nat) (z:Int×Int×Int) (ep:Nat):POp×Nat:=
 if z.1=0 then (⟨3,0,0,((ep:Nat):Int)+1,[]⟩,ep+1) else if z.1=1 then (⟨2,z.2.1 % (B:Nat),1+z.2.2 % ((B:Nat)-z.2.1 % (B:Nat)),0,[]⟩,ep) else (⟨1,z.2.1 % (B:Nat),0,0,VR z.2.2⟩,ep)
def JO (B:Nat) (zs:List (Int×Int×Int)):Nat->List POp×Nat
 | 0=>([],0)
 | n+1=>((JO B zs n).1++[(QO B (zs.getD n (0,0,0)) (JO B zs n).2).1],(QO B (zs.getD n (0,0,0)) (JO B zs n).2).2)
theorem Jo (B:Nat) (zs:List (Int×Int×Int)) (n:Nat):(JO B zs n).1.length=n:=by
 induction n with
 | zero=>rfl
 | succ n ih=>simp[JO,ih]
theorem Xm (B:Nat) (zs:List (Int×Int×Int)) (n:Nat):(JO B zs n).2<=n:=by
 induction n with
 | zero=>simp[JO]
 | succ n ih=>
   simp only[JO,QO]
   split
   . simp;exact ih
   split <;> simp <;> omega
theorem ZAg (B:Nat) (zs:List (Int×Int×Int)) (n i:Nat) (h:i<n):(JO B zs n).1[i]? = some (QO B (zs.getD i (0,0,0)) (JO B zs i).2).1:=by
 induction n with
 | zero=>omega
 | succ n ih=>
   have a:=Jo B zs n;simp only[JO];rcases BP i n with b | c
   . rw[B5 Z,ih b]
   obtain rfl:i=n:=Z;rw[Bc Z,a];simp
theorem Qy (B:Nat) (zs:List (Int×Int×Int)) (i:Nat):(JO B zs (i+1)).2=(QO B (zs.getD i (0,0,0)) (JO B zs i).2).2:=rfl
theorem Zo (B:Nat) (z:Int×Int×Int) (a:Nat):((QO B z a).1.k=3/\(QO B z a).1.e=((a:Nat):Int)+1/\(QO B z a).2=a+1)\/((QO B z a).1.k≠3/\(QO B z a).2=a):=by
 unfold QO
 split
 . exact .inl ⟨rfl,rfl,rfl⟩
 split
 . exact .inr ⟨sq,rfl⟩
 exact .inr ⟨sq,rfl⟩
theorem Xj (B:Nat) (g:1<=B/\B<=64) (z:Int×Int×Int) (a:Nat) (h:a<=1000000):Vg B (QO B z a).1/\∃ k b c e:Nat,∃ xs,(QO B z a).1=⟨k,b,c,e,xs⟩/\OpMay k b c e xs.length/\(b+max c 1<=B\/k=3):=by
 have d:=Bl z.2.1 (show ((B:Nat):Int)≠0 from Z);have f:=B9 z.2.1 (show (0:Int)<((B:Nat):Int) from Z);have i:=Bl z.2.2 (show ((B:Nat):Int)-z.2.1 % (B:Nat)≠0 from Z);have j:=B9 z.2.2 (show (0:Int)<((B:Nat):Int)-z.2.1 % (B:Nat) from Z);unfold QO
 split
 . refine⟨.inr (.inr ⟨rfl,?_,?_⟩),3,0,0,a+1,[],sq,.inr (.inr ⟨rfl,rfl,rfl,Z,Z,rfl⟩),.inr rfl⟩
   . dsimp only;omega
   dsimp only;omega
 split
 . refine⟨.inr (.inl ⟨rfl,?_,?_,?_⟩),2,(z.2.1 % (B:Nat)).toNat,(1+z.2.2 % ((B:Nat)-z.2.1 % (B:Nat))).toNat,0,[],?_,.inr (.inl ⟨rfl,Z,Z,Z,rfl,rfl⟩),.inl Z⟩
   . exact d
   . dsimp only;omega
   . dsimp only;omega
   simp only[POp.mk.injEq,DX];refine⟨rfl,?_,?_,rfl⟩ <;> omega
 refine⟨.inl ⟨rfl,d,f,sq⟩,1,(z.2.1 % (B:Nat)).toNat,0,0,VR z.2.2,?_,.inl ⟨rfl,Z,rfl,rfl,sq⟩,.inl Z⟩;simp only[POp.mk.injEq,DX];refine⟨rfl,?_,rfl,rfl⟩;omega
def PartsAt (w:World) (A:Option Addr) (len:Nat) (zs:List (Int×Int×Int)):Prop:=
 zs.length=len/\(0<len->∃ ab ao,A=some ⟨ab,ao,none⟩/\ab<w.heap.size/\∀ i z,zs[i]? = some z->cl w (aq ab (ao+i*3)) (.int .i64 z.1)/\cl w (aq ab (ao+i*3+1)) (.int .i64 z.2.1) /\
  cl w (aq ab (ao+i*3+2)) (.int .i64 z.2.2))
theorem PartsAt.kO {w w':World} (h:PartsAt w A len zs) (d:kz w w'):PartsAt w' A len zs:=
 ⟨h.1,fun g=>by
   obtain⟨j,k,e,f,l⟩:=h.2 g
   exact⟨j,k,e,d.lt f,fun i z m=>by
    obtain⟨a,b,c⟩:=l i z m;exact⟨(d.cell f sq _).trans a,(d.cell f sq _).trans b,(d.cell f sq _).trans c⟩⟩⟩
theorem YAA {c:Nat} (v s m:Nat) (xs:List UInt8) (d:1<=v/\v<=2147483647) (f:1<=s/\s<=2147483647) (h:OpMay k b c e n) {w:World} (p:Rd w A n (bys xs)) (t:n<=m) :
 Calls prog 64 #[v,s,.agg #[ii k,ii b,ii c,ii e,.slice A n m]] w fun r w'=>∃ u,r=.returned u/\w'.ownsRow w.heap.size 5 1 u (25+n) (bys (QK k v s b c e 0 xs))/\kz w w':=by
 have g:=JAX v s m (A:=A) xs d f h (w:=(w.alloc (.cells #[ii k,ii b,ii c,ii e,.slice A n m] 95))) (p.keep (kq.alloc _)) t;have y:n<=64:=by rcases h with⟨_,_,_,_,h⟩ | ⟨_,_,_,_,_,h⟩ | ⟨_,_,_,_,_,h⟩ <;> omega
 have a:k<=9/\b<=63/\c<=64/\e<=2147483647:=by rcases h with⟨_,_,_,_,h⟩ | ⟨_,_,_,_,_,h⟩ | ⟨_,_,_,_,_,h⟩ <;> omega
 have i:=fun A m W (z:Rd W A n (bys xs))=>Yo k v s b c e 0 m xs z a.1 d.2 f.2 a.2.1 a.2.2.1 a.2.2.2 Z y (fun W=>Qu v s m A d f h W);unfold frv at g i;clear h d f a;go_enter func64,ntmps64
 go_wp2_with (first
  | (go_at_call 156
     refine g.mono ?_;clear g;rintro r w1 ⟨A',j,rfl,B,F,C⟩;have l:=i A' j _ (B.keep (kq.alloc (.cells #[ii k,ii v,ii s,ii b,ii c,ii e,zz,.slice A' n j] 211)))
     clear i)
  | (go_at_call 157
     refine l.mono ?_;clear l;rintro r G ⟨u,rfl,D,E⟩))
 go_ret;have o:kz w (w1.alloc (.cells #[ii k,ii v,ii s,ii b,ii c,ii e,zz,.slice A' n j] 211)):=((kq.alloc _).tO C).alloc _;exact⟨u,rfl,ZC D o.size,o.tO E⟩
theorem JAG (x:Int) (w:World):Calls prog 55 #[ii x] w fun r w'=>∃ B:Nat,r=.returned (.agg #[B,ii 8,ii 24])/\(B:Int)=1+x % 20/\1<=B/\B<=20/\kz w w':=by
 have a:=fun W=>VW x 20 W Z Z;have d:=Bl x (show (20:Int)≠0 from Z);have e:=B9 x (show (0:Int)<20 from Z);obtain⟨B,b⟩:∃ B:Nat,(B:Int)=x % 20:=⟨(x % 20).toNat,Z⟩;rw[<- b] at a;have f:=JB b;have g:B<20:=Z;clear b d e;go_enter func55,ntmps55;go_wp2_with (apply mq (a _);clear a);have c:=Blk.new w 28 #[ii (1+(B:Nat)),ii 8,ii 24];have h:=c.cell 0;have i:=c.cell 1;have j:=c.cell 2;refine Af (v:=.agg #[ii (1+(B:Nat)),ii 8,ii 24]) (by simp[results,results55,go_sem]) rfl ⟨1+B,sq,by rw[<- JA f];simp,Z,Z,kq.alloc _⟩
theorem QAn (v:Nat) (a:1<=v/\v<=2147483647) (w:World) :
 Calls prog 167 #[v] w fun r w'=>∃ u,r=.returned u/\w'.ownsRow w.heap.size 5 1 u 25 (bys (QK 9 v 0 0 0 0 0 []))/\kz w w':=by
 have b:=fun W=>Yo 9 v 0 0 0 0 0 (A:=none) (n:=0) 0 [] (w:=W) (Rd.nil _ _) Z a.2 Z Z Z Z Z Z (fun W=>Qx v none 0 a W);unfold frv at b;clear a;go_enter func167,ntmps167
 go_wp2_with (
  (refine(b _).mono ?_)
  clear b;rintro r e ⟨u,rfl,c,d⟩)
 go_ret;exact⟨u,rfl,c,d⟩
theorem JAr {d:World} (B:Nat) (af:1<=B/\B<=64) (cap:Nat) (hz:PartsAt d A len zs) (ag:len<=60) :
 Calls prog 57 #[B,.slice A len cap] d fun e w'=>∃ OA oc c,e=.returned (.slice OA len oc)/\c.map (·.2)=(JO B zs len).1/\OHold w' d.heap.size [] (.slice OA len oc) c/\kz d w':=by
 have a1:zs.length=len:=hz.1;have ab:=JB a1;clear a1;go_enter func57,ntmps57
 go_wp2
 go_loopw [5,6,7] (fun v ep i wr=>∃ j c,j<=len/\i=.int .i64 (j:Nat)/\ep=.int .i64 ((JO B zs j).2:Nat)/\Hid (c.map (·.2)=(JO B zs j).1)/\Hid (c.length=j)/\OHold wr d.heap.size [] v c/\kz d wr) (fun _ _ i _=>len-(intOf i).toNat)
 case atStart=>exact⟨0,[],AS _,rfl,rfl,rfl,rfl,OHold.nil _ _ _,kq⟩
 obtain⟨j,c,hj,rfl,rfl,M,l,m,f⟩:=hrel;obtain⟨ac,vc,a2,_⟩:=ZB m.row;rw[JA l] at a2;subst a2;by_cases ad:j<len
 . obtain⟨b,o,ae,N,hc⟩:=hz.2 Z
   subst ae;have a3:j<zs.length:=by rw[JA ab];exact ad
   obtain⟨Q,R,S⟩:=hc j zs[j] (AC a3);replace Q:=(f.cell (b:=b) N sq _).trans Q;replace R:=(f.cell (b:=b) N sq _).trans R;replace S:=(f.cell (b:=b) N sq _).trans S;have a4:zs.getD j (0,0,0)=zs[j]:=by rw[AB,AC a3];rfl
   have ah:=Xm B zs j;have ai:=f.lt N;clear hc;generalize zs[j]=z at *;obtain⟨zk,y,g⟩:=z;simp only at Q R S;obtain⟨a,T,aj⟩:∃ a:Nat,y % (B:Nat)=(a:Int)/\a<B:=⟨(y % (B:Nat)).toNat,by have:=Bl y (show ((B:Nat):Int)≠0 from Z);omega,by have:=Bl y (show ((B:Nat):Int)≠0 from Z);have:=B9 y (show (0:Int)<((B:Nat):Int) from Z);omega⟩
   have C:∀ W:World,cq 25 #[ii y,B] W a:=fun W=>by
    rw[<- T];exact VW _ _ _ Z Z
   obtain⟨h,U,ak⟩:∃ h:Nat,g % ((B:Nat)-(a:Nat))=(h:Int)/\h<B:=⟨(g % ((B:Nat)-(a:Nat))).toNat,by have:=Bl g (show ((B:Nat):Int)-(a:Nat)≠0 from Z);omega,by have:=Bl g (show ((B:Nat):Int)-(a:Nat)≠0 from Z);have:=B9 g (show (0:Int)<((B:Nat):Int)-(a:Nat) from Z);omega⟩
   have a5:∀ W:World,cq 25 #[ii g,ii ((B:Nat)-(a:Nat))] W h:=fun W=>by
    rw[<- U];exact VW _ _ _ Z Z
   have a6:=Vo g wr;have O:=JB T;have a7:=JB U;have D:=JB a4;have V:=m.row;clear T U a4;by_cases X:zk=0
   . subst X
     have k:kz wr (wr.alloc (.cells #[ii 3,zz,zz,ii (((JO B zs j).2:Nat)+1),zn] 95)):=kq.alloc _
     have E:Rd (wr.alloc (.cells #[ii 3,zz,zz,ii (((JO B zs j).2:Nat)+1),zn] 95)) (some (aq wr.heap.size 0)) (1*5) (opc ((.slice none 0 0),⟨3,0,0,((JO B zs j).2:Nat)+1,[]⟩)):=by
      have:=Rd.of_blk (n:=5) (Blk.new wr 95 #[ii 3,zz,zz,ii (((JO B zs j).2:Nat)+1),zn]) sq;simpa [opc] using this
     go_wp2_with (first
      | (apply mq (C _);clear C)
      | (at_builtin;refine elemOps.wp_app rfl _ _ rfl d.heap.size _ c.length (c.flatMap opc) rfl (KD V _) ⟨wr.heap.size,0,none⟩ 1 1 (opc ((.slice none 0 0),⟨3,0,0,((JO B zs j).2:Nat)+1,[]⟩)) rfl E (YAc _ rfl) (by have:=JA l;omega) (by have:=JA l;omega) (by have:=f.size;simp;omega) ?_))
     intro a8 F p s _ _;obtain⟨a9,aa,G,_⟩:=ZB p;subst G;have H:=(m.kO k).snoc ((.slice none 0 0:Value),(⟨3,0,0,((JO B zs j).2:Nat)+1,[]⟩:POp)) (Ab _ _ _ _) sq p s;have I:kz d F:=(f.tO k).trans s (fun x J=>.inr (own_mem (m.kO k).row (uq J)).1)
     go_wp2
     go_round
     case rel=>
      have K:(JO B zs (j+1)).1=(JO B zs j).1++[(⟨3,0,0,((JO B zs j).2:Nat)+1,[]⟩:POp)]:=by simp only[JO,JA D,QO];rfl
      have L:(JO B zs (j+1)).2=(JO B zs j).2+1:=by simp only[JO,JA D,QO];rfl
      refine⟨j+1,c++[((.slice none 0 0:Value),(⟨3,0,0,((JO B zs j).2:Nat)+1,[]⟩:POp))],Z,by go_num,by rw[L];go_num,?_,?_,H,I⟩
      . show _=_;rw[BZ,JA M,K];rfl
      show _=_;rw[AE,JA l];rfl
     case measure=>simp[intOf];omega
   by_cases Y:zk=1
   . subst Y
     have k:kz wr (wr.alloc (.cells #[ii 2,ii a,ii (1+(h:Nat)),zz,zn] 95)):=kq.alloc _
     have E:Rd (wr.alloc (.cells #[ii 2,ii a,ii (1+(h:Nat)),zz,zn] 95)) (some (aq wr.heap.size 0)) (1*5) (opc ((.slice none 0 0),⟨2,(a:Nat),1+(h:Nat),0,[]⟩)):=by
      have:=Rd.of_blk (n:=5) (Blk.new wr 95 #[ii 2,ii a,ii (1+(h:Nat)),zz,zn]) sq;simpa [opc] using this
     go_wp2_with (first
      | (go_at_call 25;first | (apply mq (C _);clear C) | (apply mq (a5 _);clear a5))
      | (at_builtin;refine elemOps.wp_app rfl _ _ rfl d.heap.size _ c.length (c.flatMap opc) rfl (KD V _) ⟨wr.heap.size,0,none⟩ 1 1 (opc ((.slice none 0 0),⟨2,(a:Nat),1+(h:Nat),0,[]⟩)) rfl E (YAc _ rfl) (by have:=JA l;omega) (by have:=JA l;omega) (by have:=f.size;simp;omega) ?_))
     intro a8 F p s _ _;obtain⟨a9,aa,G,_⟩:=ZB p;subst G;have H:=(m.kO k).snoc ((.slice none 0 0:Value),(⟨2,(a:Nat),1+(h:Nat),0,[]⟩:POp)) (Ab _ _ _ _) sq p s;have I:kz d F:=(f.tO k).trans s (fun x J=>.inr (own_mem (m.kO k).row (uq J)).1)
     go_wp2
     go_round
     case rel=>
      have K:(JO B zs (j+1)).1=(JO B zs j).1++[(⟨2,(a:Nat),1+(h:Nat),0,[]⟩:POp)]:=by simp only[JO,JA D,QO];try simp[JA O,JA a7]
      have L:(JO B zs (j+1)).2=(JO B zs j).2:=by simp only[JO,JA D,QO];try simp[JA O,JA a7]
      refine⟨j+1,c++[((.slice none 0 0:Value),(⟨2,(a:Nat),1+(h:Nat),0,[]⟩:POp))],Z,by go_num,by rw[L],?_,?_,H,I⟩
      . show _=_;rw[BZ,JA M,K];rfl
      show _=_;rw[AE,JA l];rfl
     case measure=>simp[intOf];omega
   go_wp2_with (first
    | (go_at_call 25;apply mq (C _);clear C)
    | (go_at_call 28
       refine a6.mono ?_;clear a6;rintro r P ⟨u,rfl,hu,a0⟩;obtain⟨t,w,rfl,_⟩:=ZB hu;have k:=a0.alloc (.cells #[ii 1,ii a,zz,zz,.slice t 64 w] 95)
       have E:Rd (P.alloc (.cells #[ii 1,ii a,zz,zz,.slice t 64 w] 95)) (some P.heap.size) (1*5) (opc ((.slice t 64 w),⟨1,(a:Nat),0,0,VR g⟩)):=by
        have:=Rd.of_blk (n:=5) (Blk.new P 95 #[ii 1,ii a,zz,zz,.slice t 64 w]) sq
        simpa [opc] using this)
    | (at_builtin;refine elemOps.wp_app rfl _ _ rfl d.heap.size _ c.length (c.flatMap opc) rfl (KD (QB V a0) _) ⟨P.heap.size,0,none⟩ 1 1 (opc ((.slice t 64 w),⟨1,(a:Nat),0,0,VR g⟩)) rfl E (YAc _ rfl) (by have:=JA l;omega) (by have:=JA l;omega) (by have:=f.size;have:=a0.size;simp;omega) ?_))
   intro a8 F p s _ _;obtain⟨a9,aa,G,_⟩:=ZB p;subst G;have H:=(m.kO k).snoc ((.slice t 64 w:Value),(⟨1,(a:Nat),0,0,VR g⟩:POp)) (ZC (KD (uq hu) _) f.size) sq p s;have I:kz d F:=(f.tO k).trans s (fun x J=>.inr (own_mem (m.kO k).row (uq J)).1)
   go_wp2
   go_round
   case rel=>
    have K:(JO B zs (j+1)).1=(JO B zs j).1++[(⟨1,(a:Nat),0,0,VR g⟩:POp)]:=by simp only[JO,JA D,QO];try simp[X,Y,JA O]
    have L:(JO B zs (j+1)).2=(JO B zs j).2:=by simp only[JO,JA D,QO];try simp[X,Y,JA O]
    refine⟨j+1,c++[((.slice t 64 w:Value),(⟨1,(a:Nat),0,0,VR g⟩:POp))],Z,by go_num,by rw[L],?_,?_,H,I⟩
    . show _=_;rw[BZ,JA M,K];rfl
    show _=_;rw[AE,JA l];rfl
   case measure=>simp[intOf];omega
 obtain rfl:j=len:=Z
 go_wp2
 go_ret;exact⟨ac,vc,c,rfl,JA M,m,f⟩
theorem VAt {z:Int} (a:-1<=z) (b:z<4096):(z = -1/\XAT z=4294967295)\/(0<=z/\((XAT z:Nat):Int)=z/\XAT z<4096):=by
 unfold XAT
 split <;> omega
theorem JAb {w w':World} {base f:Nat} {u:Value} {xs:List Value} (b:RowAt w base r v bs a) (d:w.ownsRow f 3 1 u n xs) (e:Keep u.ownBlock.toList w w'):RowAt w' base r v bs a:=
 ⟨b.blk.keep e (fun c=>own_blk_ne d b.blk (by decide) (uq c)),XB b.own e (fun x g c=>own_ne b.own d (by decide) g (uq c)),b.base,b.le,b.few⟩
theorem KBT (c:Nat) (zs:List Int) {w:World} (E:Rd w A 64 (bys (JY zs))) (F:zs.length=15) (G:∀ z∈zs,-1<=z/\z<4096) :
 Calls prog 403 #[.slice A 64 c] w fun e w'=>∃ u,e=.returned (.tuple #[u,zz])/\w'.ownsRow w.heap.size 3 1 u 15 (VM zs)/\kz w w':=by
 have H:=Za (zs:=zs) Z;obtain⟨t,I⟩:∃ t,JY zs=fields (QZ zs)++t:=Ja 64 _;have J:=fun A' T W (U:Rd W A' 15 (VM zs))=>YAJ T zs U G Z;generalize JY zs=bs at *;have K:=fun W (L:kz w W)=>XU c bs (E.keep L) Z;have a5:=JB H;have V:=JB I;have M:=JB F;clear H I F;go_enter func403,ntmps403
 go_wp2_with (
  (refine(K _ kq).mono ?_)
  clear K;rintro e w2 ⟨r,v,rfl,b,N⟩)
 go_loopw [2,5,6,11] (fun u _ _ i wr=>∃ k:Nat,k<=15/\i=.int .i64 k/\wr.ownsRow w.heap.size 3 1 u k (VM (zs.take k))/\RowAt wr w.heap.size r v bs (4*k)/\kz w wr) (fun _ _ _ i _=>15-(intOf i).toNat)
 case atStart=>exact⟨0,AS _,rfl,Ab _ _ _ _,b,N⟩
 clear b N;obtain⟨k,L,rfl,d,b,p⟩:=hrel;obtain⟨a6,uc,rfl,_⟩:=ZB d;by_cases X:k<15
 . have a7:((k:Nat):Int)<15:=Z
   have y:k<zs.length:=by rw[JA M];exact X
   have O:QZ zs=(QZ zs).take k++(4,XAT zs[k]) :: (QZ zs).drop (k+1):=by
    have:=Bp k (QZ zs);rw[BY (by simpa [QZ] using y)] at this;simpa [QZ] using this.symm
   have P:4*k=widths ((QZ zs).take k):=by
    unfold QZ;rw[<- Df];have:=ZX (zs.take k);rw[BE,CE Z] at this;exact this.symm
   obtain⟨Y,Q⟩:=G _ (AQ y);have s:=Vv (k:=4) (n:=XAT zs[k]) ((QZ zs).take k) ((QZ zs).drop (k+1)) b (by rw[<- O];exact JA V) P Z (YBG Q);have R:Hid (VM (zs.take (k+1))=VM (zs.take k)++[.int .i64 zs[k]]):=JB (by rw[AO y];simp only[VM,BZ,CN,C4];rfl);have hb:=VAt Y Q;clear O P;generalize zs[k]=z at *;generalize XAT z=m at *;rcases hb with⟨a0,a1⟩ | ⟨h0,a2,a8⟩
   . subst a0 a1
     go_wp2_with (first
      | (go_at_call 258
         refine s.mono ?_;clear s;rintro e g ⟨rfl,B,h⟩;have f:=XB d h (fun x a j=>by simp at j;subst j;exact own_blk_ne d b.blk (by decide) a)
         have l:=p.trans h (fun x a=>.inr (by have:=b.fresh x (by simp at a;simp[a]);omega)))
      | (at_builtin
         refine elemInts.wp_app rfl _ _ rfl w.heap.size _ k (VM (zs.take k)) rfl (KD f _) (some g.heap.size) 1 1 [.int .i64 (-1)] rfl (Rd.of_blk (n:=1) (Blk.new g 3 #[ii (-1)]) sq) (by simp[Value.oneCell']) Z Z (AA l.size sq) ?_;rintro a3 w7 C o _ _))
     go_roundw
     case rel=>
      refine⟨k+1,Z,by go_num,by rw[JA R];exact C,?_,(l.alloc _).trans o (fun x a=>.inr (own_mem f a).1)⟩;rw[Ci];exact JAb (B.kO (kq.alloc _)) (KD f _) o
     case measure=>simp[intOf];omega
   subst a2;have a9:((m:Nat):Int)≠4294967295:=Z
   go_wp2_with (first
    | (go_at_call 258
       refine s.mono ?_;clear s;rintro e g ⟨rfl,B,h⟩;have f:=XB d h (fun x a j=>by simp at j;subst j;exact own_blk_ne d b.blk (by decide) a)
       have l:=p.trans h (fun x a=>.inr (by have:=b.fresh x (by simp at a;simp[a]);omega)))
    | (at_builtin
       refine elemInts.wp_app rfl _ _ rfl w.heap.size _ k (VM (zs.take k)) rfl (KD f _) (some g.heap.size) 1 1 [.int .i64 (m:Nat)] rfl (Rd.of_blk (n:=1) (Blk.new g 3 #[m]) sq) (by simp[Value.oneCell']) Z Z (AA l.size sq) ?_;rintro a3 w7 C o _ _))
   go_roundw
   case rel=>
    refine⟨k+1,Z,by go_num,by rw[JA R];exact C,?_,(l.alloc _).trans o (fun x a=>.inr (own_mem f a).1)⟩;rw[Ci];exact JAb (B.kO (kq.alloc _)) (KD f _) o
   case measure=>simp[intOf];omega
 obtain rfl:k=15:=Z;rw[AH (by have:=JA M;omega)] at d
 go_wp2_with (
  (refine(J _ _ _ (Rd.of_own d)).mono ?_)
  clear J;rintro e w4 ⟨u4,rfl,S,D⟩;obtain⟨aa,c4,rfl,_⟩:=ZB S;have a4:=JJ c4 c bs bs (Rd.of_own S) (E.keep (p.tO D)))
 go_wp2_with (apply mq a4);go_ret2;exact⟨_,rfl,QB d D,p.tO D⟩
theorem JAZ {w:World} {base:Nat} {t:List UInt8} (l m:List (Nat×Nat)) (c:RowAt w base r v bs a) (d:bs=fields (l++(k,n) :: m)++t) (f:a=widths l) (g:k=1\/k=2\/k=4) (h:n<256 ^ k) :
 Calls prog 452 #[.agg #[pq r],k] w fun e w'=>e=.returned n/\RowAt w' base r v bs (a+k)/\Keep [r] w w':=by
 have b:=fun W (i:kz w W)=>Vv (W0:=W) l m (c.kO i) d f g h;go_enter func452,ntmps452
 go_wp2_with (
  (refine(b _ (kq.alloc _)).mono ?_)
  clear b;rintro e s ⟨rfl,j,o⟩)
 go_ret;exact⟨rfl,j,(kq.alloc _).zero.trans o (fun x p=>.inl p)⟩
theorem QBX (zs:List Nat) (h:∀ z∈zs,z<=1) (n k:Nat) (b:k<n):YX zs n / 2 ^ k % 2=zs.getD k 0:=by
 induction n with
 | zero=>omega
 | succ n ih=>
   have c:zs.getD k 0<=1:=by
    rw[AB];rcases BP k zs.length with a | a
    . rw[AC a];exact h _ (AQ a)
    rw[BF a];exact AS _
   simp only[YX];rcases BP k n with a | a
   . rw[show zs.getD n 0*2 ^ n=2 ^ k*(2*(zs.getD n 0*2 ^ (n-k-1))) by
      rw[<- Cb,Bq (2 ^ k),Bq (2*2 ^ k)];rw[Cb,Bq 2 (2 ^ k),<- Cb,<- Cb];rw[Cb (zs.getD n 0),<- Nat.pow_add,Cb,<- CT]
      congr 2
      omega]
     rw[Nat.add_mul_div_left _ _ (Nat.two_pow_pos k),Nat.add_mul_mod_self_left];exact ih a
   obtain rfl:k=n:=Z;rw[Bq,Nat.add_mul_div_left _ _ (Nat.two_pow_pos k),Nat.div_eq_of_lt (Zs zs h k),A6];omega
theorem YBj (n k:Nat) (c:n<=65536):bits BinOp.and IntKind.i64 (((n:Nat):Int) / 2 ^ k) 1=((n / 2 ^ k % 2:Nat):Int):=by
 have e:((n:Nat):Int) / 2 ^ k=((n / 2 ^ k:Nat):Int):=sq;have d:n / 2 ^ k<=n:=CL _ _;rw[e];generalize n / 2 ^ k=m at *;show IntKind.i64.wrap ((BitVec.ofInt 64 (m:Int) &&& BitVec.ofInt 64 1).toNat:Int)=_;have a:(BitVec.ofInt 64 1).toNat=1:=by decide
 have b:(BitVec.ofInt 64 (m:Int)).toNat=m:=by rw[BitVec.toNat_ofInt];omega
 rw[CW,a,b,Nat.and_one_is_mod,AK];omega
theorem YAR {w:World} {base p:Nat} {t:List UInt8} (zs:List Nat) (l m:List (Nat×Nat)) (c:RowAt w base r v bs a) (g:bs=fields (l++(1,YX zs p) :: m)++t) (h:a=widths l) (P:p<=8) (j:∀ z∈zs,z<=1) (o:zs.length=p) :
 Calls prog 453 #[.agg #[pq r],p] w fun e w'=>∃ u,e=.returned u/\w'.ownsRow w.heap.size 3 1 u p (YL zs)/\RowAt w' base r v bs (a+1)/\Keep [r] w w':=by
 have Q:=Zs zs j p;have J:(2:Nat) ^ p<=256:=CG (n:=2) Z (show p<=8 from Z);have s:=fun W (d:kz w W)=>JAZ (w:=W) (k:=1) (n:=YX zs p) l m (c.kO d) g h Z Z;have y:=fun k (A:k<p)=>QBX zs j p k A;have B:=JB o;have K:YX zs p<=65536:=Z;clear g h o J;have C:=fun k=>YBj (YX zs p) k K;generalize YX zs p=q at *;go_enter func453,ntmps453
 go_wp2_with (
  (refine(s _ (kq.alloc _)).mono ?_)
  clear s;rintro e L ⟨rfl,D,E⟩)
 have F:Keep [r] w L:=(kq.alloc _).zero.trans E (fun x f=>.inl f);go_loopw [4,6,10] (fun u _ i wr=>∃ k:Nat,k<=p/\i=.int .i64 k/\wr.ownsRow w.heap.size 3 1 u k (YL (zs.take k))/\RowAt wr base r v bs (a+1)/\Keep [r] w wr) (fun _ _ i _=>p-(intOf i).toNat)
 case atStart=>exact⟨0,AS _,rfl,Ab _ _ _ _,D,F⟩
 clear D E F c;obtain⟨k,A,rfl,b,c,d⟩:=hrel;obtain⟨R,S,rfl,_⟩:=ZB b;by_cases G:k<p
 . have T:((k:Nat):Int)<(p:Nat):=Z
   have H:k<zs.length:=by rw[JA B];exact G
   have M:=C k;rw[y k G,AB,AC H,Co] at M;have N:Hid (YL (zs.take (k+1))=YL (zs.take k)++[.int .i64 (zs[k]:Nat)]):=JB (by rw[AO H];simp only[YL,BZ,CN,C4]);generalize zs[k]=z at *;clear C y
   go_wp2_with (at_builtin
                refine elemInts.wp_app rfl _ _ rfl w.heap.size _ k (YL (zs.take k)) rfl (KD b _) (some (aq wr.heap.size 0)) 1 1 [.int .i64 (z:Nat)] rfl (Rd.of_blk (n:=1) (Blk.new wr 3 #[z]) sq) (by simp[Value.oneCell']) Z Z (AA d.size sq) ?_;rintro U V O I _ _)
   go_roundw
   case rel=>
    refine⟨k+1,Z,by go_num,by rw[JA N];exact O,JAb (c.kO (kq.alloc _)) (KD b _) I,(d.alloc _).trans I (fun x f=>.inr (own_mem b f).1)⟩
   case measure=>simp[intOf];omega
 obtain rfl:k=p:=Z;rw[AH (by have:=JA B;omega)] at b
 go_wp2
 go_ret;exact⟨_,rfl,b,c,d⟩