/- Lemmas of the proof, with their conditions. -/
import Derived.Test.YtfedaknhecbehaaGreatM44
import Derived.Test.YtfedaknhecbehaaGreatM33
namespace Go.Proofs.YtfedaknhecbehaaGreat
open Tryz Go.RowKit Go.Shelf
variable {k j' b a old n m v f base s d g sg:Nat} {H:Nat->PPos} {bs:List UInt8} {D:PDisk} {l:List (Nat×Nat)} {w:World} {F:List Nat}
set_option linter.all false
set_option maxHeartbeats 8000000
set_option maxRecDepth 100000
def Moved (B:Nat) (S:PS) (b old:Nat) (S':PS):Prop:=
 ∃ D' us' lv1 W' a,Added B S.D S.us S.lv S.W ⟨4,b,0,old⟩ (KJ B S.D S.W old) D' us' lv1 W' a /\
   S'={ S with D:=D',us:=us',lv:=Xe B lv1 a [(old:Nat)],W:=W',I:=ZP S.I b old a }
theorem Good.any {B:Nat} {S:PS} {j:Nat} (h:Good B S k j):Good B S 100 j:=
 ⟨h.cap.any,h.now,h.many,h.flt,h.flen,h.b1,h.b64,h.bl,h.ol,h.brefs,h.orefs,h.seq,h.epoch,h.done⟩
theorem Good.later {B:Nat} {S:PS} {j:Nat} (h:Good B S k j) (a:j<=j'):Good B S k j':=
 ⟨h.cap.mono (AG _) a,h.now,h.many,h.flt,h.flen,h.b1,h.b64,h.bl,h.ol,h.brefs,h.orefs,by have:=h.seq;omega,by have:=h.epoch;omega,h.done⟩
theorem Good.ref {B:Nat} {S:PS} {j:Nat} (h:Good B S k j) (i:0<a) (c:KL S.I b a):b<B/\RefOk B S (a:Nat)/\Lies B S.us S.W a:=by
 have l:=h.bl;have m:=h.ol
 have g:∀ x:Int,x=(a:Nat)->(x = -1\/RefOk B S x)->RefOk B S (a:Nat)/\Lies B S.us S.W a:=by
  rintro x rfl d;rcases d with d | d
  . omega
  refine⟨d,?_⟩
  rcases d with d | ⟨_,d⟩
  . omega
  simpa using d
 rcases c with c | c
 . have f:b<B:=by
    rcases BG b B with e | e
    . exact e
    rw[VM Z] at c;omega
   rw[KF Z] at c;exact⟨f,g _ c (.inr (h.brefs _ (AN _)))⟩
 have f:b<B:=by
  rcases BG b B with e | e
  . exact e
  rw[VM Z] at c;omega
 rw[KF Z] at c;exact⟨f,g _ c (h.orefs _ (AN _))⟩
theorem Zx {B:Nat} {S:PS} {j:Nat} (b:Good B S k j) (d:0<a) (c:RefOk B S (a:Nat)):(KJ B S.D S.W a).length=64/\ZF B S (a:Nat)=KJ B S.D S.W a:=by
 have h:=QAU b c;unfold ZF at h ⊢;rw[AF Z] at h ⊢;exact⟨uq h,sq⟩
theorem VAD (I:PImage) (b old a:Nat):(ZP I b old a).bl.length=I.bl.length/\(ZP I b old a).ol.length=I.ol.length:=by
 unfold ZP;split <;> simp
theorem Xp (I:PImage) (b old a:Nat) (d:b<I.bl.length) (f:I.bl.length=I.ol.length) :
 (∀ c,(ZP I b old a).bl.getD c 0=if c=b/\I.bl.getD b 0=(old:Nat) then ((a:Nat):Int) else I.bl.getD c 0)/\(∀ c,(ZP I b old a).ol.getD c 0=if c=b/\I.bl.getD b 0≠(old:Nat) then ((a:Nat):Int) else I.ol.getD c 0):=by
 unfold ZP;by_cases h:I.bl.getD b 0=(old:Nat)
 . rw[AJ h]
   refine⟨fun c=>?_,fun c=>?_⟩
   . simp only
     rw[Yg _ _ _ _ d];by_cases e:c=b
     . rw[AJ e,AJ ⟨e,h⟩]
     rw[AF e,AF (fun x=>e x.1)]
   rw[AF (fun x=>x.2 h)]
 rw[AF h]
 refine⟨fun c=>?_,fun c=>?_⟩
 . rw[AF (fun x=>h x.2)]
 simp only
 rw[Yg _ _ _ _ Z];by_cases e:c=b
 . rw[AJ e,AJ ⟨e,h⟩]
 rw[AF e,AF (fun x=>e x.1)]
theorem Moved.goodG {B:Nat} {S S':PS} {j:Nat} (h:Moved B S b old S') (c:Good B S k j) (p:XO S.us S.W 1) (q:0<old) (r:KL S.I b old) :
 Good B S' (k+1) (j+1)/\YE B S'=YE B S/\XF B S'=XF B S/\S'.st=S.st:=by
 obtain⟨D',e,O,W',a,s,rfl⟩:=h;obtain⟨P,G,H⟩:=c.ref q r;have Q:=(ZD c.b1 c.b64).2;have R:=H.hi;have I:PItem.May ⟨4,b,0,old⟩:=.inr (.inr (.inr (.inl ⟨rfl,by have:=c.b64;simp only;omega,rfl,by simp only;omega,by simp only;omega⟩)));obtain⟨J,K⟩:=Zx c q G;have t:=c.cap.addedG (i:=⟨4,b,0,old⟩) p I (fun _=>J) s;obtain⟨u,f,g,v,L⟩:=s.readsG c.cap (show XO S.us S.W (JM ⟨4,b,0,old⟩) from p) c.now c.many;obtain⟨w,M⟩:=L rfl;have y:∀ x,Lies B S.us S.W x->Lies B e W' x/\KJ B D' W' x=KJ B S.D S.W x:=fun x d=>⟨(v x d).1,(v x d).2.1⟩;have l:=JS (B:=B) (S:=S) (S':={ S with D:=D',us:=e,W:=W' }) y c.brefs;have m:=KP (B:=B) (S:=S) (S':={ S with D:=D',us:=e,W:=W' }) y c.orefs;have T:a≠0:=by have:=w.lo;omega
 have z:=c.bl;have A:=c.ol;obtain⟨U,V⟩:=VAD S.I b old a;have C:RefOk B { S with D:=D',us:=e,W:=W' } (a:Nat):=.inr ⟨Z,uq w⟩
 have E:ZF B { S with D:=D',us:=e,W:=W' } (a:Nat)=ZF B S (old:Nat):=by
  rw[K,<- M];unfold ZF;rw[AF Z];simp
 by_cases d:S.I.bl.getD b 0=(old:Nat)
 . have n:ZP S.I b old a={ S.I with bl:=S.I.bl.set b a,bd:=QH S.I.bl S.I.bd b a }:=by unfold ZP;rw[AJ d]
   rw[n];refine⟨⟨t,u,f.trans c.many,by simp only;rw[g];exact c.flt,by simp only;rw[g,f];exact c.flen,c.b1,c.b64,uq z,A,?_,m.1,by have:=c.seq;simp only;omega,by have:=c.epoch;simp only;omega,by have:=c.done;simp only;omega⟩,?_,m.2,rfl⟩
   . intro x d
     rcases AS d with d | rfl
     . exact l.1 x d
     exact C
   have o:YE B S=S.I.bl.map (ZF B { S with D:=D',us:=e,W:=W' }):=l.2.symm
   show (S.I.bl.set b a).map (ZF B { S with D:=D',us:=e,W:=W' })=_;rw[Ci,E,<- o];have N:b<(S.I.bl.map (ZF B S)).length:=by rw[CJ];omega
   have:ZF B S (old:Nat)=(S.I.bl.map (ZF B S))[b]:=by
    rw[List.getElem_map,<- d,KF Z]
   unfold YE;rw[this,C2]
 have F:S.I.ol.getD b 0=(old:Nat):=r.resolve_left d
 have n:ZP S.I b old a={ S.I with ol:=S.I.ol.set b a,od:=QH S.I.ol S.I.od b a }:=by unfold ZP;rw[AF d]
 rw[n];refine⟨⟨t,u,f.trans c.many,by simp only;rw[g];exact c.flt,by simp only;rw[g,f];exact c.flen,c.b1,c.b64,z,uq A,l.1,?_,by have:=c.seq;simp only;omega,by have:=c.epoch;simp only;omega,by have:=c.done;simp only;omega⟩,l.2,?_,rfl⟩
 . intro x d
   rcases AS d with d | rfl
   . exact m.1 x d
   exact .inr C
 have o:XF B S=S.I.ol.map (fun a=>if a = -1 then none else some (ZF B { S with D:=D',us:=e,W:=W' } a)):=m.2.symm
 show (S.I.ol.set b a).map (fun a=>if a = -1 then none else some (ZF B { S with D:=D',us:=e,W:=W' } a))=_;rw[Ci,AF Z,E,<- o];have N:b<(S.I.ol.map (fun a=>if a = -1 then none else some (ZF B S a))).length:=by rw[CJ];omega
 have:some (ZF B S (old:Nat))=(S.I.ol.map (fun a=>if a = -1 then none else some (ZF B S a)))[b]:=by
  rw[List.getElem_map];rw[KF Z] at F;rw[F,AF Z]
 unfold XF;rw[this,C2]
theorem Zl {B:Nat} {S:PS} {j:Nat} (d:Good B S k j) (f:∀ x,Lies B S.us S.W x->x≠a) (g:0<a):(∀ c,S.I.bl.getD c 0≠(a:Nat))/\∀ c,S.I.ol.getD c 0≠(a:Nat):=
 ⟨fun c e=>f a (d.ref g (b:=c) (.inl e)).2.2 rfl,fun c e=>f a (d.ref g (b:=c) (.inr e)).2.2 rfl⟩
theorem Moved.extG {B:Nat} {S S':PS} {j:Nat} (h:Moved B S b old S') (c:Good B S k j) (q:XO S.us S.W 1) (w:j<=100000) (y:0<old) (r:KL S.I b old) (L:Dist S.I) (d:Ext B S):Ext B S':=by
 obtain⟨D',M,z,W',a,t,rfl⟩:=h;obtain⟨N,O,P⟩:=c.ref y r;obtain⟨f,g⟩:=t.extG c (show XO S.us S.W (JM ⟨4,b,0,old⟩) from q) w d;obtain⟨Q,R,T,A,C⟩:=t.readsG c.cap (show XO S.us S.W (JM ⟨4,b,0,old⟩) from q) c.now c.many;obtain⟨u,U⟩:=C rfl;have D:0<a:=by have:=u.lo;omega
 have E:(a-(6+4*pgs B)) / 24<8:=by have:=u.hi;omega
 have V:=c.ol;have W:=c.bl;obtain⟨F,G⟩:=Zl c (fun x d=>(A x d).2.2 rfl) D;have e:=fun s=>LiveOk.small (S:={ S with lv:=z }) g ⟨c.cap,c.now,c.many,c.flt,c.flen,c.b1,c.b64,c.bl,c.ol,c.brefs,c.orefs,c.seq,c.epoch,c.done⟩ s;obtain⟨H,I⟩:=KX (B:=B) (zs:=[((old:Nat):Int)]) g.len e E;obtain⟨J,v⟩:=Xp S.I b old a Z Z;refine⟨f,⟨H,fun s f=>?_,fun i hi=>?_⟩,d.slot,d.lie0,d.lie1⟩
 . rw[I s f,g.live s f]
   unfold ZN;simp only;rw[Be,DI];by_cases d:S.I.bl.getD b 0=(old:Nat)
   . have e:ZP S.I b old a={ S.I with bl:=S.I.bl.set b a,bd:=QH S.I.bl S.I.bd b a }:=by unfold ZP;rw[AJ d]
     rw[e];simp only;have m:=ZS (p:=QJ B s) (l:=S.I.bl) (i:=b) (a:=(a:Nat)) Z;rw[KF Z] at d;rw[d] at m
     have K:(if QJ B s (old:Nat) then 1 else 0)<=S.I.bl.countP (QJ B s):=by
      split
      . exact CC.2 ⟨S.I.bl[b]' Z,AN _,by rw[d];assumption⟩
      omega
     omega
   have n:S.I.ol.getD b 0=(old:Nat):=r.resolve_left d
   have e:ZP S.I b old a={ S.I with ol:=S.I.ol.set b a,od:=QH S.I.ol S.I.od b a }:=by unfold ZP;rw[AF d]
   rw[e];simp only;have m:=ZS (p:=QJ B s) (l:=S.I.ol) (i:=b) (a:=(a:Nat)) Z;rw[KF Z] at n;rw[n] at m
   have K:(if QJ B s (old:Nat) then 1 else 0)<=S.I.ol.countP (QJ B s):=by
    split
    . exact CC.2 ⟨S.I.ol[b]' Z,AN _,by rw[n];assumption⟩
    omega
   omega
 simp only at hi ⊢
 rw[J,v];rw[v] at hi;by_cases o:i=b/\S.I.bl.getD b 0≠(old:Nat)
 . rw[AJ o,AF (fun h=>o.2 h.2)]
   exact(F i).symm
 rw[AF o] at hi ⊢
 split
 . exact G i
 exact d.liv.diff i hi
theorem Moved.logG {B:Nat} {S S':PS} {j:Nat} (h:Moved B S b old S') (l:Good B S k j) (t:XO S.us S.W 1) (C:j<=100000) (D:0<old) (u:KL S.I b old) (E:KT (KJ B S.D S.W old)) (F:LogS B S) (q:Dist S.I):LogS B S'/\Dist S'.I /\
 ∀ c x:Nat,0<x->x≠old->KL S.I c x->KL S'.I c x:=by
 obtain⟨D',Q,T,W',a,v,rfl⟩:=h;obtain⟨G,U,V⟩:=l.ref D u;obtain⟨H,R,I,w⟩:=F;obtain⟨J,K,L,y,z⟩:=I.added v l.cap (show XO S.us S.W (JM ⟨4,b,0,old⟩) from t) C l.now l.many sq (fun _=>G) (fun _=>E);obtain⟨W,X,Y,M,N⟩:=v.readsG l.cap (show XO S.us S.W (JM ⟨4,b,0,old⟩) from t) l.now l.many;obtain⟨O,rb⟩:=N rfl;have a0:=l.ol;have a1:=l.bl;have P:0<a:=by have:=O.lo;omega
 obtain⟨r,s⟩:=Zl l (fun x m=>(M x m).2.2 rfl) P;obtain⟨n,o⟩:=Xp S.I b old a Z Z;refine⟨⟨J,K,L,fun c A x m f=>?_⟩,⟨fun c e g d=>?_,fun c e g d=>?_,fun c e g=>?_⟩,fun c x m a2 f=>?_⟩
 . rcases f with f | f
   . simp only at f
     rw[n] at f
     split at f
     . rename_i e
       obtain⟨rfl,_⟩:=e;obtain rfl:a=x:=Z
       exact z rfl
     exact y c x (w c A x m (.inl f))
   simp only at f
   rw[o] at f
   split at f
   . rename_i e
     obtain⟨rfl,_⟩:=e;obtain rfl:a=x:=Z
     exact z rfl
   exact y c x (w c A x m (.inr f))
 . simp only at g d
   rw[n] at g d;rw[n] at d
   split at d
   . rename_i i
     split at d
     . rename_i p;rw[i.1,p.1]
     exact absurd d.symm (r e)
   rename_i i
   rw[AF i] at g
   split at d
   . exact absurd d (r c)
   exact q.bb c e g d
 . simp only at g d
   rw[o] at g d;rw[o] at d
   split at d
   . rename_i i
     split at d
     . rename_i p;rw[i.1,p.1]
     exact absurd d.symm (s e)
   rename_i i
   rw[AF i] at g
   split at d
   . exact absurd d (s c)
   exact q.oo c e g d
 . simp only at g ⊢
   rw[n] at g ⊢;rw[o]
   split
   . rename_i i
     split
     . rename_i p;exact absurd i.2 p.2
     exact(s e).symm
   rename_i i
   rw[AF i] at g
   split
   . exact r c
   exact q.bo c e g
 have a3:=q.bo
 rcases f with f | f
 . refine .inl ?_
   simp only;rw[n,AF]
   . exact f
   rintro⟨rfl,e⟩
   omega
 refine .inr ?_
 simp only;rw[o,AF]
 . exact f
 rintro⟨rfl,e⟩
 have:=u.resolve_left e;omega
def Dropped (B:Nat) (S:PS) (b n:Nat) (S':PS):Prop:=
 ∃ D' us' lv1 W' a,Added B S.D S.us S.lv S.W ⟨6,b,n,0⟩ [] D' us' lv1 W' a /\
   S'={ S with D:=D',us:=us',lv:=Xe B lv1 0 (JG b n S.I.bl S.I.bd).1,W:=W',I:={ S.I with bl:=(JG b n S.I.bl S.I.bd).2.1,bd:=(JG b n S.I.bl S.I.bd).2.2 } }
def Synced (B:Nat) (S:PS) (S':PS):Prop:=∃ D2 us2 W2,Emitted B S.D S.us S.W D2 us2 W2/\S'={ S with D:=D2.flush,us:=us2,W:=W2 }
theorem Qk (b n:Nat) (l:List Int) (a:List Bool) (x:Nat):(JG b n l a).2.1.getD x 0=if b<=x/\x<b+n/\x<l.length then 0 else l.getD x 0:=by
 rw[AA,VX]
 split
 . rfl
 rw[<- AA]
theorem LogS.less {B:Nat} {S S':PS} {c:Nat->PPos} {R d:Nat->List PRec} (f:∀ b,b<B->∀ a:Nat,0<a->KL S.I b a->RefTold B (stOf S.us) S.W H R b a) (g:∀ b a,RefTold B (stOf S.us) S.W H R b a->RefTold B (stOf S'.us) S'.W c d b a)
 (i:LogOn B S'.D (stOf S'.us) S'.W c d) (hi:∀ b (a:Nat),0<a->KL S'.I b a->KL S.I b a):LogS B S':=
 ⟨c,d,i,fun b j a e h=>g b a (f b j a e (hi b a e h))⟩
theorem Trimmed.logG {B:Nat} {S S':PS} {j:Nat} (h:Trimmed B S b n S') (i:Good B S k j) (o:XO S.us S.W (JM ⟨2,b,n,0⟩)) (p:j<=100000) (q:LogS B S) (l:Dist S.I):LogS B S'/\Dist S'.I:=by
 obtain⟨D',z,A,W',a,r,rfl⟩:=h;obtain⟨H,R,s,t⟩:=q;obtain⟨C,D,u,v,E⟩:=s.added r i.cap o p i.now i.many sq (fun h=>by cases h) (fun h=>by cases h);have w:=fun x=>Qk b n S.I.ol S.I.od x
 have g:∀ x:Nat,0<(JG b n S.I.ol S.I.od).2.1.getD x 0->(JG b n S.I.ol S.I.od).2.1.getD x 0=S.I.ol.getD x 0:=fun x d=>by
  rw[w] at d ⊢
  split at d
  . omega
  rename_i e;rw[AF e]
 refine⟨LogS.less t v u (fun c x F f=>?_),⟨l.bb,fun c e d m=>?_,fun c e d m=>?_⟩⟩
 . rcases f with f | f
   . exact .inl f
   simp only at f
   exact .inr (by rw[<- g c Z];exact f)
 . simp only at d m
   have G:=g c d;have y:=g e Z;exact l.oo c e Z Z
 simp only at d m
 have y:=g e Z;exact l.bo c e d Z
theorem Dropped.goodG {B:Nat} {S S':PS} {j:Nat} (h:Dropped B S b n S') (c:Good B S k j) (f:XO S.us S.W (JM ⟨6,b,n,0⟩)) (s:1<=n) (z:b+n<=B) :
 Good B S' (k+1) (j+1)/\YE B S'=YU (YE B S) b n zeros64/\XF B S'=XF B S/\S'.st=S.st:=by
 obtain⟨D',e,A,W',a,g,rfl⟩:=h;have t:PItem.May ⟨6,b,n,0⟩:=.inr (.inl ⟨.inr rfl,by have:=c.b64;simp only;omega,s,by have:=c.b64;simp only;omega,rfl⟩);have u:=c.cap.addedG f t (fun h=>by cases h) g;obtain⟨v,l,m,o,C⟩:=g.readsG c.cap f c.now c.many;have p:∀ x,Lies B S.us S.W x->Lies B e W' x/\KJ B D' W' x=KJ B S.D S.W x:=fun x d=>⟨(o x d).1,(o x d).2.1⟩;have q:=JS (B:=B) (S:=S) (S':={ S with D:=D',us:=e,W:=W' }) p c.brefs;have r:=KP (B:=B) (S:=S) (S':={ S with D:=D',us:=e,W:=W' }) p c.orefs;have w:=c.bl;have y:=(ZL b n S.I.bl S.I.bd).1;refine⟨⟨u,v,l.trans c.many,by simp only;rw[m];exact c.flt,by simp only;rw[m,l];exact c.flen,c.b1,c.b64,by simp only;rw[y];exact w,c.ol,?_,r.1,by have:=c.seq;simp only;omega,by have:=c.epoch;simp only;omega,by have:=c.done;simp only;omega⟩,?_,r.2,rfl⟩
 . intro x d
   obtain⟨i,hi⟩:=DF d;rw[VX] at hi
   split at hi
   . cases hi;exact .inl rfl
   exact q.1 x (Bz hi)
 apply By
 intro x;rw[VU];unfold YE;simp only[Aa,CJ];rw[VX]
 split
 . simp only[Az,Ab]
   unfold ZF;rw[AJ rfl]
 rw[<- Aa,<- Aa]
 exact congrArg (·[x]?) q.2
theorem Dropped.extG {B:Nat} {S S':PS} {j:Nat} (h:Dropped B S b n S') (c:Good B S k j) (g:XO S.us S.W (JM ⟨6,b,n,0⟩)) (l:j<=100000) (t:b+n<=B) (d:Ext B S):Ext B S':=by
 obtain⟨D',u,m,W',a,o,rfl⟩:=h;obtain⟨e,f⟩:=o.extG c g l d;have v:=c.bl;have p:=fun s=>LiveOk.small (S:={ S with lv:=m }) f ⟨c.cap,c.now,c.many,c.flt,c.flen,c.b1,c.b64,c.bl,c.ol,c.brefs,c.orefs,c.seq,c.epoch,c.done⟩ s;obtain⟨q,r⟩:=KX (B:=B) (a:=0) (zs:=(JG b n S.I.bl S.I.bd).1) f.len p Z;refine⟨e,⟨q,fun s e=>?_,fun i hi=>?_⟩,d.slot,d.lie0,d.lie1⟩
 . rw[r s e,f.live s e]
   unfold ZN;simp only;have w:=KAD B s b n S.I.bl S.I.bd Z;rw[XK (a:=((0:Nat):Int)) Z];simp only[Ap,CD];omega
 simp only at hi ⊢
 rw[Qk]
 split
 . omega
 exact d.liv.diff i hi
theorem Dropped.logG {B:Nat} {S S':PS} {j:Nat} (h:Dropped B S b n S') (i:Good B S k j) (o:XO S.us S.W (JM ⟨6,b,n,0⟩)) (p:j<=100000) (q:LogS B S) (l:Dist S.I):LogS B S'/\Dist S'.I:=by
 obtain⟨D',z,A,W',a,r,rfl⟩:=h;obtain⟨H,R,s,t⟩:=q;obtain⟨C,D,u,v,E⟩:=s.added r i.cap o p i.now i.many sq (fun h=>by cases h) (fun h=>by cases h);have w:=fun x=>Qk b n S.I.bl S.I.bd x
 have g:∀ x:Nat,0<(JG b n S.I.bl S.I.bd).2.1.getD x 0->(JG b n S.I.bl S.I.bd).2.1.getD x 0=S.I.bl.getD x 0:=fun x d=>by
  rw[w] at d ⊢
  split at d
  . omega
  rename_i e;rw[AF e]
 refine⟨LogS.less t v u (fun c x F f=>?_),⟨fun c e d y=>?_,l.oo,fun c e d=>?_⟩⟩
 . rcases f with f | f
   . simp only at f
     exact .inl (by rw[<- g c Z];exact f)
   exact .inr f
 . simp only at d y
   have m:=g c d;have G:=g e Z;exact l.bb c e Z Z
 simp only at d ⊢
 have m:=g c d;rw[m] at d ⊢;exact l.bo c e d
theorem PutDone.extG {B:Nat} {S S':PS} {j:Nat} (h:PutDone B S b bs S') (c:Good B S k j) (g:XO S.us S.W 1) (q:j<=100000) (E:b<B) (d:Ext B S):Ext B S':=by
 obtain⟨D',F,r,W',a,m,rfl⟩:=h;obtain⟨e,f⟩:=m.extG c g q d;obtain⟨G,H,I,t,u⟩:=m.readsG c.cap g c.now c.many;obtain⟨n,J⟩:=u rfl;have v:0<a:=by have:=n.lo;omega
 have w:(a-(6+4*pgs B)) / 24<8:=by have:=n.hi;omega
 have K:=c.bl;obtain⟨y,z⟩:=Zl c (fun x d=>(t x d).2.2 rfl) v;have A:=fun s=>LiveOk.small (S:={ S with lv:=r }) f ⟨c.cap,c.now,c.many,c.flt,c.flen,c.b1,c.b64,c.bl,c.ol,c.brefs,c.orefs,c.seq,c.epoch,c.done⟩ s;obtain⟨C,D⟩:=KX (B:=B) (zs:=[YH (S.I.bl.getD b 0) a]) f.len A w;refine⟨e,⟨C,fun s e=>?_,fun i hi=>?_⟩,d.slot,d.lie0,d.lie1⟩
 . rw[D s e,f.live s e]
   unfold ZN;simp only;have L:=ZS (p:=QJ B s) (l:=S.I.bl) (i:=b) (a:=(a:Nat)) Z;have o:=y b;rw[KF Z] at o;rw[Be,DI,KF Z,Vf (fun _=>o)]
   have M:(if QJ B s (S.I.bl[b]' Z) then 1 else 0)<=S.I.bl.countP (QJ B s):=by
    split
    . exact CC.2 ⟨S.I.bl[b]' Z,AN _,by assumption⟩
    omega
   omega
 simp only at hi ⊢
 rw[Yg _ _ _ _ Z]
 split
 . exact z i
 exact d.liv.diff i hi
theorem PutDone.logG {B:Nat} {S S':PS} {j:Nat} (h:PutDone B S b bs S') (g:Good B S k j) (p:XO S.us S.W 1) (v:j<=100000) (w:b<B) (y:KT bs) (z:LogS B S) (o:Dist S.I):LogS B S'/\Dist S'.I:=by
 obtain⟨D',N,O,W',a,q,rfl⟩:=h;obtain⟨H,R,A,r⟩:=z;obtain⟨C,D,E,s,F⟩:=A.added q g.cap p v g.now g.many sq (fun _=>w) (fun _=>y);obtain⟨P,Q,T,G,I⟩:=q.readsG g.cap p g.now g.many;obtain⟨J,U⟩:=I rfl;have V:=g.bl;have K:0<a:=by have:=J.lo;omega
 obtain⟨t,L⟩:=Zl g (fun x m=>(G x m).2.2 rfl) K;have n:=fun c=>Yg S.I.bl b c (a:Nat) Z;refine⟨⟨C,D,E,fun c u x m i=>?_⟩,⟨fun c e d f=>?_,o.oo,fun c e d=>?_⟩⟩
 . rcases i with i | i
   . simp only at i
     rw[n] at i
     split at i
     . rename_i e
       subst e;obtain rfl:a=x:=Z
       exact F rfl
     exact s c x (r c u x m (.inl i))
   exact s c x (r c u x m (.inr i))
 . simp only at d f
   rw[n] at d f;rw[n] at f
   split at f
   . rename_i l
     split at f
     . rename_i M;rw[l,M]
     exact absurd f.symm (t e)
   rename_i l
   split at f
   . exact absurd f (t c)
   rw[AF l] at d;exact o.bb c e d f
 simp only at d ⊢
 rw[n] at d ⊢
 split
 . exact(L e).symm
 rename_i l
 rw[AF l] at d;exact o.bo c e d
theorem Synced.good {B:Nat} {S S':PS} {j:Nat} (h:Synced B S S') (a:Good B S k j) (c:Ext B S) (s:j<=100000) :
 Good B S' k (j+1)/\Ext B S'/\YE B S'=YE B S/\XF B S'=XF B S/\S'.st=S.st:=by
 obtain⟨b,f,d,e,rfl⟩:=h;have o:=a.cap.mark e 1 Z b.flush (by show b.acts+1<=_;omega);obtain⟨p,q⟩:=e.reads a.cap.ok a.now a.many a.cap.seg a.cap.off;obtain⟨_,_,r,_,_,_,_,_,_,_,_,g,_,_,i⟩:=e.facts a.cap.ok;have t:=a.cap.lsn;have l:∀ x,Lies B S.us S.W x->Lies B f d x/\KJ B b.flush d x=KJ B S.D S.W x:=q;have m:=JS (B:=B) (S:=S) (S':={ S with D:=b.flush,us:=f,W:=d }) l a.brefs;have n:=KP (B:=B) (S:=S) (S':={ S with D:=b.flush,us:=f,W:=d }) l a.orefs;refine⟨⟨o,p,g.trans a.many,?_,?_,a.b1,a.b64,a.bl,a.ol,m.1,n.1,by have:=a.seq;simp only;omega,by have:=a.epoch;simp only;omega,a.done⟩,⟨?_,c.liv,c.slot,c.lie0,c.lie1⟩,m.2,n.2,rfl⟩
 . show ∀ x∈b.faults,x=false
   rw[i];exact a.flt
 . show b.faults.length=b.n
   rw[i,g];exact a.flen
 simp only;rw[r];exact e.segs c.segs Z
theorem Emitted.stOf {B:Nat} {D':PDisk} {us a:List (Nat×Nat)} {W W':PW} (b:Emitted B D us W D' a W') (s:Nat):stOf a s=stOf us s:=by
 rcases b with⟨_,_,rfl,_⟩ | ⟨_,c,d,e,f,_,_,_,_,rfl,_⟩
 . rfl
 exact XG _ _ _ _
theorem Synced.log {B:Nat} {S S':PS} {j:Nat} (h:Synced B S S') (a:Good B S k j) (t:j<=100000) (e:LogS B S) (f:Dist S.I):LogS B S'/\Dist S'.I:=by
 obtain⟨u,v,w,b,rfl⟩:=h;obtain⟨H,R,g,i⟩:=e;have y:=a.cap.lsn;obtain⟨l,m,n,o⟩:=g.emitted b a.cap.ok a.now a.many a.cap.off Z;have d:=b.stOf;exact⟨⟨l,m,(n.st (fun s _=>by rw[d])).congr (fun x _=>rfl),fun c p x q r=>(o c x (i c p x q r)).st (fun s _ h=>by rw[d];exact h)⟩,f⟩
theorem Checked.log {B:Nat} {S S':PS} {j:Nat} (h:Checked B S S') (b:Good B S k j) (m:Ext B S) (T:j<=100000) (u:LogS B S) (n:Dist S.I):LogS B S'/\Dist S'.I:=by
 obtain⟨U,g,v,D',V,W,i,w,X,Y,rfl⟩:=h;obtain⟨H,R,y,z⟩:=u;have a0:=b.cap.lsn;obtain⟨A,C,o,D⟩:=y.emitted i b.cap.ok b.now b.many b.cap.off Z;obtain⟨e1,e2,e3,e4,e5,e6,e7,e8,e9,a1,a2⟩:=b.cap.emitted i;obtain⟨E,q2⟩:=i.reads b.cap.ok b.now b.many b.cap.seg b.cap.off;have p:=i.stOf;have a3:=b.cap.seg
 have hrel:∀ s,s<8->stOf (VT g S.lv 8) s=stOf S.us s\/(s≠v.pos.seg/\stOf S.us s≠0/\stOf (VT g S.lv 8) s=0/\S.lv.getD s 0=0):=fun s d=>by
  have F:=Zh g S.lv 8 s Z;unfold Go.Proofs.YtfedaknhecbehaaGreat.stOf at *;rw[F]
  split
  . rename_i G
    obtain⟨J,K⟩:=Kh G.2;refine .inr ⟨fun e=>?_,by rw[<- p s];omega,rfl,K⟩;rw[e] at J;omega
  exact .inl (p s)
 have L:=o.release (st':=stOf (VT g S.lv 8)) (fun s d=>(hrel s d).imp id (fun h=>⟨h.1,h.2.1,h.2.2.1⟩));refine⟨⟨A,C,L.congr (fun x m=>w.now (by rw[E]) x m),fun c M x N O=>?_⟩,⟨n.bb,n.oo,n.bo⟩⟩;have f:KL S.I c x:=O;rcases D c x (z c M x N f) with l | ⟨s,d,l,q⟩
 . exact .inl l
 refine .inr ⟨s,d,?_,q⟩
 rcases hrel s d with r | ⟨_,_,_,r⟩
 . simp only;rw[r];exact l
 exfalso
 obtain⟨t1,P,Q⟩:=o.told_in s d l _ q
 have t:=ZAx (B:=B) (I:=S.I) (a:=(x:Int)) (by
  have a4:=b.bl;have a5:=b.ol;rcases f with f | f
  . left;rw[<- f,KF Z];exact AN _
  right;rw[<- f,KF Z];exact AN _) Z
 simp only[Ba] at t;rw[Vi (s:=s) (by simp only at P;omega) (uq Q),<- m.liv.live s d] at t;omega
structure Well (B:Nat) (S:PS) (j:Nat):Prop where
 good:Good B S 100 j
 ext:Ext B S
 log:LogS B S
 dist:Dist S.I
 nkb:∀ r∈YE B S,KT r
 nko:∀ r,some r∈XF B S->KT r
theorem notKR_zeros:KT zeros64:=fun⟨h,_⟩=>by simp[zeros64] at h
theorem notKR_nil:KT []:=fun⟨h,_⟩=>by simp at h
namespace Well
variable {B:Nat} {S S':PS} {j:Nat}
theorem later (h:Well B S j) (a:j<=j'):Well B S j':=⟨h.good.later a,h.ext,h.log,h.dist,h.nkb,h.nko⟩
theorem frees (h:Well B S j) {a:Bool} (b:RoomOk S.us S.W m a):XO S.us S.W m:=b.frees h.good.cap.ul
theorem room (h:Well B S j) (m:Nat) (a:Bool):RoomOk S.us S.W m a\/SpaceNo S.us S.W m a:=by
 by_cases b:SpaceNo S.us S.W m a
 . exact .inr b
 exact .inl (RoomOk.of b h.good.cap.ul)
theorem ref (h:Well B S j) (d:0<a) (c:KL S.I b a):b<B/\Lies B S.us S.W a/\KT (KJ B S.D S.W a)/\(KJ B S.D S.W a).length=64:=by
 obtain⟨g,i,k⟩:=h.good.ref d c;obtain⟨m,o⟩:=Zx h.good d i;refine⟨g,k,?_,m⟩;rw[<- o];have p:=h.good.bl;have q:=h.good.ol;rcases c with c | c
 . refine h.nkb _ ?_
   unfold YE;rw[<- c,KF Z];exact List.mem_map_of_mem (AN _)
 refine h.nko _ ?_
 unfold XF;rw[KF Z] at c;have e:=List.mem_map_of_mem (f:=fun a=>if a = -1 then none else some (ZF B S a)) (AN (l:=S.I.ol) (n:=b) Z);rw[c,AF Z] at e;exact e
theorem wrote (w:Well B S j) (h:Wrote B S b bs S') (c:XO S.us S.W 1) (o:j<=90000) (d:b<B) (i:bs.length=64) (e:KT bs) :
 Well B S' (j+1)/\YE B S'=YE B S/\XF B S'=(XF B S).set b (some bs)/\S'.st={ S.st with seq:=S.st.seq+1 }:=by
 obtain⟨k,f,g,l⟩:=h.goodG w.good c d i;obtain⟨m,n⟩:=h.logG w.good c Z d e w.log w.dist;refine⟨⟨k.any,h.extG w.good c Z d w.ext,m,n,by rw[f];exact w.nkb,fun r a=>?_⟩,f,g,l⟩;rw[g] at a;rcases AS a with a | a
 . exact w.nko r a
 cases a;exact e
theorem trimmed (w:Well B S j) (h:Trimmed B S b n S') (a:XO S.us S.W 0) (p:j<=90000) (g:1<=n) (c:b+n<=B) :
 Well B S' (j+1)/\YE B S'=YE B S/\XF B S'=YU (XF B S) b n (some zeros64)/\S'.st={ S.st with seq:=S.st.seq+1 }:=by
 obtain⟨k,d,e,l⟩:=h.goodG w.good a g c;obtain⟨m,o⟩:=h.logG w.good a Z w.log w.dist;refine⟨⟨k.any,h.extG w.good a Z c w.ext,m,o,by rw[d];exact w.nkb,fun r f=>?_⟩,d,e,l⟩;rw[e] at f;obtain⟨i,hi⟩:=DF f;rw[VU] at hi
 split at hi
 . cases hi;exact notKR_zeros
 exact w.nko r (Bz hi)
theorem marked {e:Nat} (w:Well B S j) (h:Marked B S e S') (b:XO S.us S.W 0) (o:j<=90000) (p:e=S.st.epoch+1) :
 Well B S' (j+2)/\YE B S'=VP (YE B S) (XF B S)/\XF B S'=List.replicate B none/\S'.st={ S.st with epoch:=e,seq:=S.st.seq+1,done:=S.st.seq+1 }:=by
 have q:=w.good.epoch;obtain⟨f,c,d,g⟩:=h.goodG w.good b Z Z;obtain⟨k,l⟩:=h.logG w.good b Z Z w.log w.dist;refine⟨⟨f.any,h.extG w.good b Z Z w.ext,k,l,fun r a=>?_,fun r a=>?_⟩,c,d,g⟩
 . rw[c] at a
   unfold VP at a;obtain⟨i,hi⟩:=DF a;rw[C3] at hi
   split at hi
   . rename_i u v m n
     simp only[Ab] at hi;subst hi;rcases v with _ | v
     . exact w.nkb _ (Bz m)
     exact w.nko _ (Bz n)
   cases hi
 rw[d] at a
 have:=AX a;cases this
theorem put (w:Well B S j) (h:PutDone B S b bs S') (c:XO S.us S.W 1) (u:j<=90000) (e:b<B) (m:bs.length=64) (f:KT bs) :
 Well B S' (j+1)/\YE B S'=(YE B S).set b bs/\XF B S'=XF B S/\S'.st=S.st:=by
 obtain⟨n,g,o⟩:=h.goodG w.good c e m;obtain⟨p,q⟩:=h.logG w.good c Z e f w.log w.dist
 have i:XF B S'=XF B S:=by
  obtain⟨D',s,v,W',a,t,rfl⟩:=h;obtain⟨y,z,A,k,C⟩:=t.readsG w.good.cap c w.good.now w.good.many;exact(KP (B:=B) (S:=S) (S':={ S with D:=D',us:=s,W:=W' }) (fun x l=>⟨(k x l).1,(k x l).2.1⟩) w.good.orefs).2
 refine⟨⟨n.any,h.extG w.good c Z e w.ext,p,q,fun r d=>?_,by rw[i];exact w.nko⟩,g,i,o⟩;rw[g] at d;rcases AS d with d | rfl
 . exact w.nkb r d
 exact f
theorem moved (w:Well B S j) (h:Moved B S b old S') (e:XO S.us S.W 1) (q:j<=90000) (a:0<old) (d:KL S.I b old) :
 Well B S' (j+1)/\YE B S'=YE B S/\XF B S'=XF B S/\S'.st=S.st/\∀ c x:Nat,0<x->x≠old->KL S.I c x->KL S'.I c x:=by
 obtain⟨_,i,k,_⟩:=w.ref a d;have r:=i.hi;have s:=(ZD w.good.b1 w.good.b64).2;obtain⟨l,f,g,m⟩:=h.goodG w.good e a d;obtain⟨n,o,p⟩:=h.logG w.good e Z a d k w.log w.dist;exact⟨⟨l.any,h.extG w.good e Z a d w.dist w.ext,n,o,by rw[f];exact w.nkb,by rw[g];exact w.nko⟩,f,g,m,p⟩
theorem checked (w:Well B S j) (h:Checked B S S') (i:j<=90000):Well B S' (j+1)/\YE B S'=YE B S/\XF B S'=XF B S/\S'.st={ S.st with gen:=S.st.gen+1 }:=by
 obtain⟨c,d,a,b,e⟩:=h.good w.good w.ext Z;obtain⟨f,g⟩:=h.log w.good w.ext Z w.log w.dist;exact⟨⟨c,d,f,g,by rw[a];exact w.nkb,by rw[b];exact w.nko⟩,a,b,e⟩
theorem pos (w:Well B S j):S.W.pos.Ok:=by
 obtain⟨H,R,h,-⟩:=w.log;exact h.pos
theorem does {o:POp} (w:Well B S j) (h:Does B S o S') (e:KS B o) (i:KT o.d) (l:Good B S k j) (n:k<=50) (b:j<=90000):Well B S' (j+2):=by
 have c:∀ m,m<=1->XO S.us S.W m:=fun m p=>l.cap.frees n p;rcases h with⟨f,a⟩ | ⟨f,a⟩ | ⟨f,a,q⟩
 . rcases e with⟨_,r,s,g⟩ | ⟨d,_⟩ | ⟨d,_⟩
   . exact(w.wrote a (c 1 Z) b Z g i).1.later Z
   . omega
   omega
 . rcases e with⟨d,_⟩ | ⟨_,r,s,g⟩ | ⟨d,_⟩
   . omega
   . exact(w.trimmed a (c 0 Z) b Z Z).1.later Z
   omega
 exact(w.marked q (c 0 Z) b Z).1
end Well
theorem JAd {B:Nat} (e:Good B (PS.fresh B D) k 0) (h:VAV (198+4*pgs B) B D):Well B (PS.fresh B D) 0:=by
 obtain⟨f,g⟩:=JBF h;refine⟨e.any,QAw B D,f,g,fun r b=>?_,fun r b=>?_⟩
 . unfold YE at b
   obtain⟨a,c,rfl⟩:=C8.1 b;have d:a∈List.replicate B (0:Int):=c;obtain rfl:=AX d;unfold ZF;rw[AJ rfl];exact notKR_zeros
 unfold XF at b
 obtain⟨a,c,i⟩:=C8.1 b;have d:a∈List.replicate B (-1:Int):=c;obtain rfl:=AX d;cases i
inductive Moves (B:Nat) (S:PS):List (Nat×Nat)->PS->Prop
 | nil:Moves B S [] S
 | snoc {l:List (Nat×Nat)} {x:Nat×Nat} {S1 S2:PS} (h:Moves B S l S1) (hr:RoomOk S1.us S1.W 1 true) (k:Moved B S1 x.1 x.2 S2):Moves B S (l++[x]) S2
def KBl (I:PImage) (l:List (Nat×Nat)):Prop:=(∀ x∈l,0<x.2/\KL I x.1 x.2)/\l.Pairwise (fun x y=>x.2<y.2)
theorem Moves.well {B:Nat} {S S':PS} {j:Nat} (h:Moves B S l S') (w:Well B S j) (g:j+l.length<=90000):∀ a,KBl S.I (l++a) ->
 Well B S' (j+l.length)/\YE B S'=YE B S/\XF B S'=XF B S/\S'.st=S.st/\KBl S'.I a:=by
 induction h with
 | nil=>intro a b;exact⟨w,rfl,rfl,rfl,b⟩
 | @snoc l x S1 S2 h hr k ih=>
   intro a b;rw[AE,Af] at g ⊢;rw[BN] at b;obtain⟨w1,b1,i,m,d,c⟩:=ih Z ([x]++a) b;obtain⟨n,o⟩:=d x sq;obtain⟨p,q,r,s,t⟩:=w1.moved k (w1.frees hr) Z n o;rw[List.singleton_append,List.pairwise_cons] at c;refine⟨p,q.trans b1,r.trans i,s.trans m,fun y e=>?_,c.2⟩;obtain⟨f,u⟩:=d y (by simp[e]);have:=c.1 y e;exact⟨f,t y.1 y.2 f Z u⟩
structure ClList (B:Nat) (S:PS) (v:Nat) (T:List (Nat×Nat)):Prop where
 ok:KBl S.I T
 blk:∀ x∈T,x.1<B
 here:∀ x∈T,JC B v<x.2/\x.2<JC B v+24
 all:∀ b a:Nat,0<a->KL S.I b a->JC B v<=a->a<JC B v+24->(b,a)∈T
theorem VBh {lo hi:Nat} (a:l.Pairwise (fun x y=>x.2<y.2)) (h:∀ x∈l,lo<=x.2/\x.2<hi):l.length<=hi-lo:=by
 induction l generalizing lo with
 | nil=>simp
 | cons x l ih=>
   rw[List.pairwise_cons] at a;have c:=h x sq;have:=ih (lo:=x.2+1) a.2 (fun y b=>⟨a.1 y b,(h y (by simp[b])).2⟩);simp only[Ao];omega
theorem ClList.len {B:Nat} {S:PS} {T:List (Nat×Nat)} (h:ClList B S v T):T.length<=23:=by
 have:=VBh (lo:=JC B v+1) (hi:=JC B v+24) h.ok.2 (fun x a=>by have:=h.here x a;omega);omega
theorem VAg {p:PPos} {Rs:List PRec} {R:PRec} (h:R∈Rs):∃ q,(q,R)∈placed p Rs:=by
 induction Rs generalizing p with
 | nil=>cases h
 | cons S Rs ih=>
   rcases AL.1 h with rfl | h
   . exact⟨p,by simp[placed]⟩
   obtain⟨q,a⟩:=ih (p:=S.behind p) h
   exact⟨q,by simp[placed,a]⟩
theorem YAm {I:PImage} (h:QS I b a=true):KL I b a:=by
 unfold QS YV at h;simp only[C1,AY] at h;rcases h with h | h
 . exact .inl h
 split at h
 . exact .inl h
 exact .inr h
theorem KAd {I:PImage} (h:KL I b a):QS I b a=true:=by
 unfold QS YV;simp only[C1,AY];rcases h with h | h
 . exact .inl h
 right
 rw[AF Z];exact h
theorem ZBb {B:Nat} {S:PS} {R:Nat->List PRec} (i:LogOn B S.D (stOf S.us) S.W H R) (m:∀ b,b<B->∀ a:Nat,0<a->KL S.I b a->RefTold B (stOf S.us) S.W H R b a) (G:S.I.bl.length=B) (I:S.I.ol.length=B) (k:v<8) (l:stOf S.us v≠0) (J:v≠S.W.pos.seg) (n:S.W.items≠[]->YC S.W.pos.off S.W.blocks.length<=23) (K:S.W.blocks.length=ZG S.W.items) :
 ClList B S v (JO S.I B (placed (H v) (R v))):=by
 obtain⟨p0,b0,-,-,-,o⟩:=i.begins v k l
 have t:=(YBc B (H v) (R v) (fun r u=>by
  obtain⟨q,w⟩:=VAg (p:=H v) u;exact(o _ w).2.2.1.many)).1
 have g:∀ x,x∈JO S.I B (placed (H v) (R v))->x∈VS B (placed (H v) (R v))/\QS S.I x.1 x.2=true:=fun x c=>by
  rw[VZ,Dr] at c;exact c
 have j:=i.told_in v k l;refine⟨⟨fun x c=>?_,?_⟩,fun x c=>(j x (g x c).1).1,fun x c=>(j x (g x c).1).2,fun b a y f z L=>?_⟩
 . have z:=j x (g x c).1
   exact⟨Z,YAm (g x c).2⟩
 . rw[VZ]
   exact t.filter _
 rw[VZ,Dr]
 refine⟨?_,KAd f⟩
 have A:b<B:=by
  rcases BG b B with d | d
  . exact d
  rcases f with f | f
  . rw[VM Z] at f;omega
  rw[VM Z] at f;omega
 rcases m b A a y f with d | ⟨s,C,D,d⟩
 . exfalso
   have h:=Zb _ _ _ d;have E:S.W.items≠[]:=fun e=>by rw[e] at d;simp[JAA] at d
   have F:=n E;simp only at h;unfold YC at h F;unfold JC at *;omega
 have h:=i.told_in s C D _ d
 have:s=v:=by
  simp only at h;unfold JC at *;omega
 subst this;exact d
theorem Well.cl {B:Nat} {S:PS} {j:Nat} (w:Well B S j) (c:v<8) (f:(S.us.getD v (0,0)).1=2):v≠S.W.pos.seg/\∃ H R,LogOn B S.D (stOf S.us) S.W H R/\ClList B S v (JO S.I B (placed (H v) (R v))):=by
 obtain⟨H,R,a,d⟩:=w.log
 have b:v≠S.W.pos.seg:=fun e=>by
  have:=w.good.cap.opn;rw[<- e] at this;omega
 exact⟨b,H,R,a,ZBb a d w.good.bl w.good.ol c (by unfold stOf;omega) b (fun h=>w.good.cap.ok.fit h) w.good.cap.ok.many⟩
def Xj (S:PS):Bool:=(Ve S.us S.lv S.W.pos.lsn).isSome && decide (YB S.us<=2)
inductive Rnd (B:Nat) (S:PS):Nat->Nat->PS->Prop
 | first {S1:PS} (h:Checked B S S1):Rnd B S 0 (relO S.us S.lv 8).length S1
 | more {n f:Nat} {S1 S2 S3:PS} {x:Nat×Nat×Nat} {T:List (Nat×Nat)} (h:Rnd B S n f S1) (hw:Xj S1=true) (hp:Ve S1.us S1.lv S1.W.pos.lsn=some x) (hT:ClList B S1 x.2.2 T) (hm:Moves B S1 T S2) (hc:Checked B S2 S3):Rnd B S (n+1) (f+(relO S2.us S2.lv 8).length) S3
theorem Rnd.well {B:Nat} {S S':PS} {j:Nat} (h:Rnd B S n f S') (w:Well B S j) (o:j+(1+24*n)<=90000):Well B S' (j+(1+24*n))/\YE B S'=YE B S/\XF B S'=XF B S/\S'.st={ S.st with gen:=S.st.gen+(1+n) }/\f<=8*(1+n):=by
 induction h with
 | first h=>
   obtain⟨w1,b1,a,b⟩:=w.checked h Z
   exact⟨w1.later Z,b1,a,by rw[b],by have:=Qv S.us S.lv 8;omega⟩
 | @more n f S1 S2 S3 x T h hw hp hT hm hc ih=>
   obtain⟨w1,b1,a,b,p⟩:=ih Z;have q:=hT.len;obtain⟨c,d,e,g,-⟩:=hm.well w1 Z [] (by rw[Bg];exact hT.ok);obtain⟨i,k,l,m⟩:=c.checked hc Z;refine⟨i.later Z,k.trans (d.trans b1),l.trans (e.trans a),?_,by have:=Qv S2.us S2.lv 8;omega⟩;rw[m,g,b];simp only[PSt.mk.injEq,true_and];omega
def RoundEnd (B:Nat) (S:PS) (f:Nat) (S':PS):Prop:=
 ∃ n,n<=64/\((Rnd B S n f S'/\(n=64\/Xj S'=false)) \/
   (n<64/\∃ S1 x T T1 T2,Rnd B S n f S1/\Xj S1=true/\Ve S1.us S1.lv S1.W.pos.lsn=some x/\ClList B S1 x.2.2 T/\T=T1++T2/\Moves B S1 T1 S'/\SpaceNo S'.us S'.W 1 true))
theorem RoundEnd.well {B:Nat} {S S':PS} {j:Nat} (h:RoundEnd B S f S') (w:Well B S j) (o:j<=88000):Well B S' (j+1600)/\YE B S'=YE B S/\XF B S'=XF B S/\∃ n,n<=65/\S'.st={ S.st with gen:=S.st.gen+n }:=by
 obtain⟨n,p,⟨h,_⟩ | ⟨q,r,x,T,s,d,h,_,_,c,rfl,e,_⟩⟩:=h
 . obtain⟨w1,b1,a,b,_⟩:=h.well w Z
   exact⟨w1.later Z,b1,a,1+n,Z,b⟩
 obtain⟨w1,b1,a,b,_⟩:=h.well w Z
 have g:=c.len;rw[AE] at g;obtain⟨i,k,l,m,-⟩:=e.well w1 Z d c.ok;exact⟨i.later Z,k.trans b1,l.trans a,1+n,Z,by rw[m,b]⟩
def YBi (x y:Int) (old:Nat):Prop:=x=(old:Nat)\/(¬ x=(old:Nat)/\y=(old:Nat))
theorem JAr {B:Nat} {S:PS} (h:StoreAt w base s d F B S) {j:Nat} (i:Good B S k j) (aa:RoomOk S.us S.W 1 true) (hj:j<=100000) (h0:0<old) (o:KL S.I b old) :
 Calls prog 92 #[pq s,b,old] w fun e w'=>e=.returned zz/\∃ ak S',StoreAt w' base s d ak B S'/\Moved B S b old S'/\Keep F w w'/\Grow w F ak:=by
 obtain⟨g,t,p,m,Fd,Ft,Fw,q,C,D,h,rfl⟩:=h;obtain⟨E,al,H⟩:=i.ref h0 o;have am:=(ZD h.log.geom.pos h.log.geom.few).2;have an:=H.lo;have ab:=H.hi;have ac:=Kc w base s d g t p m Fd Ft Fw q C D B S h b 1 Z Z;have ad:=JV w base s d g t p m Fd Ft Fw q C D B S h 0 (.inl rfl);rw[show ((0:Nat):Int)=0 from rfl] at ad;rw[show ((1:Nat):Int)=1 from rfl] at ac;have ae:=Kz h.img b (by rw[i.bl];exact E);have af:=Vt h.img b (by rw[i.bl];exact E) (by rw[i.ol];exact E);have ag:=Xw h.log i.flt i.flen i.cap.ok old (by rw[i.many];exact ab);have ao:PItem.May ⟨4,b,0,old⟩:=.inr (.inr (.inr (.inl ⟨rfl,by have:=i.b64;simp only;omega,rfl,by simp only;omega,by simp only;omega⟩)));obtain⟨x,f⟩:∃ x,x=S.I.bl[b]'(by rw[i.bl];exact E):=⟨_,rfl⟩;obtain⟨y,hy⟩:=ex (YV S.I b)
 have b1:YBi x y old:=by
  by_cases I:x=(old:Nat)
  . exact .inl I
  refine .inr ⟨I,?_⟩
  have b2:S.I.bl.getD b 0=x:=by rw[f];exact Ze (by rw[i.bl];exact E)
  rcases o with o | o
  . exact absurd (b2.symm.trans o) I
  rw[hy];unfold YV;rw[o,AF Z]
 rw[<- f] at ae;rw[<- hy] at af;obtain⟨bs,a6⟩:=ex (KJ B S.D S.W old);have c2:bs.length=64:=by rw[a6];exact(Zx i h0 al).1
 rw[<- a6] at ag;have b3:=ZB a6;clear a6 f hy;have ah:=h.blk;have ap:s∉Fd++(Ft++Fw):=fun n=>h.aps (by simp only[AL,AD] at n ⊢;rcases n with n | n | n <;> simp[n])
 have ar:∀ x∈Fd++(Ft++Fw),x<w.heap.size:=fun x f=>by
  simp only[AD] at f;rcases f with f | f | f
  . exact h.log.disk.lt x f
  . exact h.log.tab.lt x f
  exact h.log.wri.lt x f
 have b4:=i.cap.acts;have b5:=i.cap.lsn
 have a7:=fun a8 U c (r:kz w a8) (hu:a8.ownsRow w.heap.size 5 1 (.slice U 64 c) 64 (bys bs))=>XAZ (h.log.kO r) i.cap.ok i.cap.off Z Z i.cap.opn ao sq aa (A:=U) c bs (by simpa [JM,PItem.loaded] using Rd.of_own hu) (fun x f n=>by
  have q1:=ar _ n;have q2:=(own_mem hu (g:=x.block) (by rw[f];simp[Value.ownBlock])).1;omega)
 rw[show 64*JM ⟨4,b,0,old⟩=64 by simp[JM,PItem.loaded]] at a7;simp only[itc] at a7;have b6:=ZB a7;clear a7 b4 b5;have J:=ZB i;have b7:=ZB aa;have b8:Hid (StoreIs w base s d g t p m Fd Ft Fw q C D B S):=h;have b9:=ZB o;have ba:=ZB ab;have bb:=ZB an;have c4:(0:Int)<(old:Nat):=Z
 have bc:=ZB E;have bd:=ZB ap;obtain⟨K,L,M,N,O,P,Q,R,T,V,W,X,Y,a0,a1,a2,a3,a4⟩:=KC ah;clear h i aa al H am an ab ao ar o E ap;go_enter func92,ntmps92;rcases b1 with I | ⟨I,c5⟩
 all_goals
  go_wp2_with (first
   | (go_at_call 109;refine ac.mono ?_;clear ac;rintro e w' ⟨rfl,rfl⟩)
   | (go_at_call 93;refine ad.mono ?_;clear ad;rintro e w' ⟨rfl,rfl⟩)
   | (go_at_call 111;refine ae.mono ?_;clear ae;rintro e w' ⟨rfl,rfl⟩)
   | (go_at_call 113;refine af.mono ?_;clear af;rintro e w' ⟨rfl,rfl⟩)
   | (go_at_call 215
      refine ag.mono ?_;clear ag K L M N O P Q R T V W X Y a0 a1 a2 a3 a4;rintro e w1 ⟨bf,uc,rfl,hu,r⟩;have G:=(ZA b6) w1 bf uc r hu
      obtain⟨K,L,M,N,O,P,Q,R,T,V,W,X,Y,a0,a1,a2,a3,a4⟩:=KC (ah.kO r))
   | (go_at_call 105
      refine G.mono ?_;clear G K L M N O P Q R T V W X Y a0 a1 a2 a3 a4;rintro e w2 ⟨a,rfl,au,av,bg,bh,bi,a8,h1,G,ai,bj,bk⟩;have bl:=(ah.kO r).keep ai (ZA bd);obtain⟨K,L,M,N,O,P,Q,R,T,V,W,X,Y,a0,a1,a2,a3,a4⟩:=KC bl;obtain⟨a9,bm⟩:=((show StoreIs w base s d g t p m Fd Ft Fw q C D B S from ZA b8).kO r).setLog h1 ai bj bk;rw[ZA b3] at G;obtain⟨_,_,_,_,a5⟩:=G.readsG (ZA J).cap ((ZA b7).frees (ZA J).cap.ul) (ZA J).now (ZA J).many;obtain⟨a5,_⟩:=a5 rfl;have bn:=a5.lo;have bo:=a5.hi;have am:=(ZD a9.log.geom.pos a9.log.geom.few).2;have aw:=ZBP a9.img b old a (by rw[(ZA J).bl];exact ZA bc) Z Z (ZA b9);have bp:=ZB G
      clear G a5)
   | (go_at_call 216
      refine aw.mono ?_;clear aw K L M N O P Q R T V W X Y a0 a1 a2 a3 a4;rintro e w3 ⟨rfl,bq,ax⟩;have ay:=a9.setImg bq (VAD S.I b old a).1 ax;have az:kz w3 (w3.alloc (.cells #[old] 3)):=kq.alloc _;have br:=XS w3 (.int .i64 (old:Nat)) 3;have bt:∀ x∈Ft,x<w3.heap.size:=fun x f=>ay.log.tab.lt x f
      have b0:=Qt _ base s d g t p m au Ft av q C D B _ (ay.kO az) a (.inr ⟨bn,bo⟩) _ 1 1 [((old:Nat):Int)] br (by intro z hz;simp at hz;subst hz;exact .inr ⟨ZA bb,ZA ba⟩) Z (fun x f n=>by cases f;have:=bt _ n;simp at this))
   | (go_at_call 107
      refine b0.mono ?_;clear b0;rintro e w4 ⟨rfl,bu,bv⟩))
  go_ret;have aj:∀ {l:List Nat} {u v:World},(∀ x∈l,x=s\/x∈Fd\/x∈Ft\/x∈Fw\/x∈q)->Keep l u v->Keep (VO s g Fd Ft Fw q C D) u v:=fun H hk=>hk.sub (XBe H);have bw:=r.zero.trans (aj (by intro x f;simp only[AD] at f;rcases f with h | h | h <;> simp[h]) ai) (fun x f=>.inl f);have bx:=bw.trans (aj (by intro x f;simp[f]) ax) (fun x f=>.inl f);have bz:=(bx.tO az).trans (aj (by intro x f;simp[f]) bv) (fun x f=>.inl f);exact⟨rfl,_,_,⟨g,t,p,m,au,Ft,av,q,C,D,bu,rfl⟩,⟨bg,bh,bi,a8,a,ZA bp,rfl⟩,bz,bm.keep r⟩
theorem KBR {B:Nat} {S:PS} (h:StoreAt w base s d F B S) {j:Nat} (a:Good B S k j) (D:SpaceNo S.us S.W 1 true) (h0:0<old) (f:KL S.I b old) :
 cr 92 #[pq s,b,old] w (ii 6):=by
 obtain⟨g,t,p,m,Fd,Ft,Fw,E,G,H,h,rfl⟩:=h;obtain⟨i,a8,q⟩:=a.ref h0 f;have a9:=(ZD h.log.geom.pos h.log.geom.few).2;have aa:=q.lo;have I:=q.hi;have r:=Kc w base s d g t p m Fd Ft Fw E G H B S h b 1 Z Z;have u:=JV w base s d g t p m Fd Ft Fw E G H B S h 0 (.inl rfl);rw[show ((0:Nat):Int)=0 from rfl] at u;rw[show ((1:Nat):Int)=1 from rfl] at r;have v:=Kz h.img b (by rw[a.bl];exact i);have z:=Vt h.img b (by rw[a.bl];exact i) (by rw[a.ol];exact i);have J:=Xw h.log a.flt a.flen a.cap.ok old (by rw[a.many];exact I);have K:PItem.May ⟨4,b,0,old⟩:=.inr (.inr (.inr (.inl ⟨rfl,by have:=a.b64;simp only;omega,rfl,by simp only;omega,by simp only;omega⟩)));obtain⟨x,A⟩:∃ x,x=S.I.bl[b]'(by rw[a.bl];exact i):=⟨_,rfl⟩;obtain⟨y,C⟩:=ex (YV S.I b)
 have ab:YBi x y old:=by
  by_cases l:x=(old:Nat)
  . exact .inl l
  refine .inr ⟨l,?_⟩
  have ac:S.I.bl.getD b 0=x:=by rw[A];exact Ze (by rw[a.bl];exact i)
  rcases f with f | f
  . exact absurd (ac.symm.trans f) l
  rw[C];unfold YV;rw[f,AF Z]
 rw[<- A] at v;rw[<- C] at z;generalize KJ B S.D S.W old=bs at *;clear A C;have L:=h.blk;have o:=fun ad U c (n:kz w ad)=>QBG (h.log.kO n) a.cap.ok K sq D U c;rw[show 64*JM ⟨4,b,0,old⟩=64 by simp[JM,PItem.loaded]] at o;simp only[itc] at o;have ae:=ZB o;clear o;have ah:(0:Int)<(old:Nat):=Z
 obtain⟨M,N,O,P,Q,R,T,V,W,X,Y,a0,a1,a2,a3,a4,a5,a6⟩:=KC L;clear h a D a8 q a9 aa I K f i;go_enter func92,ntmps92;rcases ab with l | ⟨l,ai⟩
 all_goals
  go_wp2_with (first
   | (go_at_call 109;refine r.mono ?_;clear r;rintro e w' ⟨rfl,rfl⟩)
   | (go_at_call 93;refine u.mono ?_;clear u;rintro e w' ⟨rfl,rfl⟩)
   | (go_at_call 111;refine v.mono ?_;clear v;rintro e w' ⟨rfl,rfl⟩)
   | (go_at_call 113;refine z.mono ?_;clear z;rintro e w' ⟨rfl,rfl⟩)
   | (go_at_call 215
      refine J.mono ?_;clear J M N O P Q R T V W X Y a0 a1 a2 a3 a4 a5 a6;rintro e w1 ⟨af,uc,rfl,hu,n⟩;have a7:=(ZA ae) w1 af uc n
      obtain⟨M,N,O,P,Q,R,T,V,W,X,Y,a0,a1,a2,a3,a4,a5,a6⟩:=KC (L.kO n))
   | (go_at_call 105
      refine a7.mono ?_;clear a7;rintro e w2 ⟨rfl,ag⟩))
  go_ret;exact⟨rfl,n.tO ag⟩
section
open Go.RowKit Go.Shelf
attribute [local go_sem] AW
theorem KAE (p:PPos) (Rs:List PRec):(placed p Rs).length=Rs.length:=by
 induction Rs generalizing p with
 | nil=>rfl
 | cons R Rs ih=>simp[placed,ih]
theorem YBf (w:World) (x y:Value) (e:TypeId):Rd (w.alloc (.cells #[x,y] e)) (some w.heap.size) (1*2) [x,y]:=by
 have a:=Blk.new w e #[x,y];refine⟨rfl,fun _=>⟨_,_,rfl,a.lt,fun j u b=>?_⟩⟩;have h:=a.cell j;simp only[BB];rw[h];simpa using b
theorem VBM {q:PPos} (a:YM w s d g sg q):cq 214 #[pq s] w zz:=by
 unfold YM at a;have b:=(cells14 a).2.2.2.2.2.2.2.2.2.2.2.2.2;go_enter func214,ntmps214
 go_wp2
 go_ret;exact⟨rfl,rfl⟩
structure KOf (w:World) (base m g B sg:Nat) (Fm:List Nat) (I:PImage) (b5 b6 b7 oc N:Nat) (pre:List PTold) (W:World):Prop where
 b5:Boxed W b5 46 (.pointer (some g))
 b6:Boxed W b6 128 (.pointer (some m))
 b7:Boxed W b7 3 (.int .i64 (sg:Nat))
 out:∃ OV,Boxed W oc 159 OV/\W.ownsRow w.heap.size 164 2 OV (JO I B (pre.map (fun x=>(x.1,x.2.1)))).length ((JO I B (pre.map (fun x=>(x.1,x.2.1)))).flatMap blc)
 len:(JO I B (pre.map (fun x=>(x.1,x.2.1)))).length<=6*pre.length
 img:ImageAt W base m Fm I
 geom:GeomAt W g B
 keep:kz w W
 size:N<=W.heap.size
set_option pp.deepTerms.threshold 500
set_option pp.maxSteps 1000000
theorem QAj {B:Nat} {p0:PPos} {b0:Bool} {bk:List Nat} {I:PImage} {Rs:List PRec} (hg:GeomAt w g B) (ah:DiskAt w base d F D) (hI:ImageAt w base m bk I) (d3:I.bl.length=B) (d4:D.off=false) (hn:D.n=198+4*pgs B) (bm:sg<=7) (hf:∀ k,k<D.n->D.faults[k]? = some false)
 (cc:Begins D B sg p0 b0 Rs)
 (cd:∀ x∈placed p0 Rs,x.1.seg=sg/\x.1.off<=24/\x.2.May/\∀ i∈x.2.items,i.loaded=true->i.b<B) (ce:Rs.length<=100) :
 Calls prog 90 #[.pointer (some d),.pointer (some g),.pointer (some m),.int .i64 (sg:Nat)] w fun e w'=>∃ U,e=.returned (.tuple #[U,.int .i64 0]) /\
  w'.ownsRow w.heap.size 164 2 U (JO I B (placed p0 Rs)).length ((JO I B (placed p0 Rs)).flatMap blc)/\kz w w':=by
 have a6:=fun W (v:kz w W)=>AQ (n:=2).2 (QAi d sg (hg.kO v) bm);have d5:=ZB a6;have d6:=ZB cd;have cf:=ZB ce;have d7:=ZB cc;have d8:=ZB hf;clear a6 cd ce cc hf;refine(AQ (n:=3)).1 ?_;refine callsIn_of_wp_marks func90 rfl trivial ?_ rfl;simp only[ntmps90,PL,Nat.reduceAdd,Nat.reduceSub];obtain⟨wa,au⟩:=ex (w.alloc (.cells #[.pointer (some g)] 46));obtain⟨wb,av⟩:=ex (wa.alloc (.cells #[.pointer (some m)] 128));obtain⟨wc,aw⟩:=ex (wb.alloc (.cells #[.int .i64 (sg:Nat)] 3));obtain⟨w1,ax⟩:=ex (wc.alloc (.cells #[.slice none 0 0] 159));have sa:wa.heap.size=w.heap.size+1:=by rw[au,AM]
 have sb:wb.heap.size=w.heap.size+1+1:=by rw[av,AM,sa]
 have sc:wc.heap.size=w.heap.size+1+1+1:=by rw[aw,AM,sb]
 have s1:w1.heap.size=w.heap.size+1+1+1+1:=by rw[ax,AM,sc]
 have ka:kz w wa:=by rw[au];exact kq.alloc _
 have kb:kz wa wb:=by rw[av];exact kq.alloc _
 have kc:kz wb wc:=by rw[aw];exact kq.alloc _
 have kd:kz wc w1:=by rw[ax];exact kq.alloc _
 have kw:kz w w1:=((ka.tO kb).tO kc).tO kd;have q5:Boxed w1 w.heap.size 46 (.pointer (some g)):=JA (by rw[au];exact Boxed.new w _ _) ((kb.tO kc).tO kd) sq;have q6:Boxed w1 (w.heap.size+1) 128 (.pointer (some m)):=JA (by rw[av,<- sa];exact Boxed.new wa _ _) (kc.tO kd) sq;have q7:Boxed w1 (w.heap.size+1+1) 3 (.int .i64 (sg:Nat)):=JA (by rw[aw,<- sb];exact Boxed.new wb _ _) kd sq;have q8:Boxed w1 (w.heap.size+1+1+1) 159 (.slice none 0 0):=by rw[ax,<- sc];exact Boxed.new wc _ _
 gi_wp2_with (
  rw[<- au,<- av,<- aw,<- ax];refine⟨trivial,?_⟩;refine(ZA d5 w1 kw).mono ?_;rintro e f ⟨s,rfl,cg,eb,a0⟩;have x6:=(JA q6 a0 sq).cell)
 gi_wp2_with (refine⟨trivial,?_⟩;refine(XBN _ _ _ rfl).mono ?_;rintro e w' ⟨rfl,rfl⟩);obtain⟨l,ay⟩:=ex (f.alloc (.cells #[.pointer (some s)] 274));rw[<- ay];have k3:kz f l:=by rw[ay];exact kq.alloc _
 have s3:l.heap.size=f.heap.size+1:=by rw[ay,AM]
 have az:kz w1 l:=a0.tO k3;have b1:kz w l:=kw.tO az;have q9:Boxed l f.heap.size 274 (.pointer (some s)):=by rw[ay];exact Boxed.new f _ _
 have d9:YM l s d g sg ⟨sg,0,0,0,0⟩:=Blk.kO cg k3;have ec:=a0.size;have da:=ah.lt;have db:=hI.lt;have ed:=hg.lt;have ee:=cg.lt
 have h0:KOf w base m g B sg bk I w.heap.size (w.heap.size+1) (w.heap.size+1+1) (w.heap.size+1+1+1) l.heap.size [] l:=
  ⟨JA q5 az sq,JA q6 az sq,JA q7 az sq,⟨_,JA q8 az sq,AZ _ _ _ _⟩,AG _,hI.kO b1,hg.kO b1,b1,AG _⟩
 have bc:=YAM 2 (sb:=f.heap.size) (s:=s) (d:=d) (g:=g) (B:=B) (base:=base) (sg:=sg) (q:=⟨sg,0,0,0,0⟩) (p0:=p0) (b0:=b0) (F:=F) (D:=D) (Rs:=Rs) [164,159] (by decide) (by decide) (by decide) (by decide) (by decide) (by decide) (by decide) (by decide) (by decide)
  l q9 d9 (hg.kO b1) (ah.kO b1) d4 hn bm (ZA d8) (ZA d7) (fun H=>by have:=da _ H;omega) Z
 clear x6 q5 q6 q7 q8 ka kb kc kd au av aw ax ay sa sb sc
 refine Jz (n:=3) (gf:=325) (lb:=#[.pointer (some f.heap.size)]) rfl (enters_of func325 (by kernel_rfl) rfl)
  (fun xs V k o J a6 hl M N=>⟨a6.1,a6.2.choose,XH J a6.2.choose_spec M N⟩) bc (fun _=>rfl) (fun x C=>by simp at C;omega)
  (KOf w base m g B sg bk I w.heap.size (w.heap.size+1) (w.heap.size+1+1) (w.heap.size+1+1+1) l.heap.size) ?hI ?hIb (fun b2 x A B a1 v=>⟨a1.1,a1.2.kO v⟩) ?hFb h0
  (fun x bn V=>∃ b3,bn={ tmps:=#[.pointer (some d),.pointer (some g),.pointer (some m),.int .i64 (sg:Nat),undef,.pointer (some w.heap.size),.pointer (some ⟨w.heap.size+1,0,none⟩),.pointer (some ⟨w.heap.size+1+1,0,none⟩),.pointer (some ⟨w.heap.size+1+1+1,0,none⟩),.int .i64 0,.pointer (some s),.int .i64 x.1.off,.pointer (some (aq b3 0)),undef,undef,undef,.pointer (some d),.pointer (some g),.int .i64 (sg:Nat),.pointer (some s),.pointer (some s),.bool false,.bool false,.pointer (some m),.bool false,.bool false,.pointer (some s),.func (.func 325) #[] #[.pointer (some f.heap.size)],.int .i64 x.1.off,.agg #[.int .i64 x.2.1.mount,.int .i64 x.2.1.lsn,.int .i64 x.2.1.prev,x.2.2.1,x.2.2.2],undef,undef,undef,undef,undef,undef,undef,undef,undef,undef,undef,undef,undef,undef,undef,undef,undef,undef,undef,undef,undef,undef,undef,undef,undef,undef,undef,undef,undef,undef,undef,undef,undef,undef,undef,undef],defers:=[] }/\Blk V b3 280 #[.int .i64 x.2.1.mount,.int .i64 x.2.1.lsn,.int .i64 x.2.1.prev,x.2.2.1,x.2.2.2])
  ?hAb ?assign ?body ?done
 case hI=>
  intro xs A V L X v ch
  have b4:∀ b cs t,A.heap[b]? = some (.cells cs t)->t∉[375,49]->b∉L:=fun b cs t hb ht H=>by
   obtain⟨-,ef,eg,e1,e2⟩:=ch _ H;rw[hb] at e1;cases e1;exact ht e2
  have bo:∀ x∈L,w.heap.size<=x:=fun x C=>by
   obtain⟨r,-⟩:=ch x C;rcases r with r | r
   . simp at r;omega
   omega
  obtain⟨Y,u,a⟩:=X.out;refine⟨JA X.b5 v (b4 _ _ _ X.b5 (by decide)),JA X.b6 v (b4 _ _ _ X.b6 (by decide)),JA X.b7 v (b4 _ _ _ X.b7 (by decide)),⟨Y,JA u v (b4 _ _ _ u (by decide)),KA a v (fun b hb H=>?_)⟩,X.len,X.img.keep v (fun x C H=>by have:=db x C;have:=bo x H;omega),X.geom.keep v (fun H=>by have:=bo _ H;omega),X.keep.trans v (fun x C=>.inr (bo x C)),AB X.size v.size⟩;rcases a.2 with⟨rfl,_⟩ | ⟨bp,cap,dc,rfl,_,bq,_⟩
  . simp[Value.ownBlock] at hb
  obtain rfl:bp=b:=by simpa [Value.ownBlock] using hb
  exact b4 _ _ _ bq (by decide) H
 case hIb=>
  intro xs V k o J O hl M N;obtain⟨Y,u,a⟩:=O.out;obtain⟨p1,p2,dd,de,hi⟩:=O.img;exact⟨ZC J O.b5 M N,ZC J O.b6 M N,ZC J O.b7 M N,⟨Y,ZC J u M N,XM J a M N⟩,O.len,⟨p1,p2,dd,de,hi.putObj J M N⟩,⟨XH J O.geom.blk M N,O.geom.pos,O.geom.few⟩,O.keep.putObj Z _,by rw[World.putObj_size];exact O.size⟩
 case hFb=>
  intro b2 x V k o J O hl M N;obtain⟨r,hi,ls,P,h3,h4⟩:=O;exact⟨r,XM J hi M N,ls,P,XM J h3 M N,fun q hq=>XM J (h4 q hq) M N⟩
 case hAb=>
  intro x bn V k o J O hl M N;obtain⟨b3,r,P⟩:=O;exact⟨b3,r,XH J P M N⟩
 case assign=>
  rintro df b2 ⟨p,R,I',b5⟩ V eh Q a1 ai;have a7:RecHold V 0 I' b5 R:=a1.2;obtain⟨ei,ic,rfl,_⟩:=XB a7.its;obtain⟨aj,bl,ci,rfl⟩:∃ aj bl br,b5=.slice aj bl br:=by obtain⟨ls,-,P,-⟩:=a7.bls;obtain⟨A,c,ah,_⟩:=XB P;exact⟨A,_,c,ah⟩
  have dg:=ZB ai;clear ai bc h0 a1 a7 Q;dsimp only[KAr]
  gi_wp2
  exact ZA dg _ _ (kq.alloc _) ⟨_,rfl,Blk.new V _ _⟩
 case body=>
  rintro df b2 ⟨p,R,I',b5⟩ bn V Q a1 ⟨b3,rfl,bd⟩;have a7:RecHold V 0 I' b5 R:=a1.2;obtain⟨bs,cj,b6,ak⟩:=ZA d6 (p,R) (Bz a1.1);simp only at bs cj b6 ak;obtain⟨gi,ic,rfl,_⟩:=YD a7.its b6.some;obtain⟨aj,bl,ci,rfl⟩:∃ aj bl br,b5=.slice aj bl br:=by obtain⟨ls,-,P,-⟩:=a7.bls;obtain⟨A,c,ah,_⟩:=XB P;exact⟨A,_,c,ah⟩
  dsimp only at bd ⊢;have dh:=Q.b5.cell;have di:=Q.b7.cell;have bt:=AQ (n:=0).2 (Zg V g B Q.geom sg bm);obtain⟨K,ai⟩:=ex (6+4*pgs B+24*sg);rw[<- ai] at bt;obtain⟨S,ck⟩:=ex (K+p.off);have ej:=(ZD hg.pos hg.few).2;have ek:S<=400:=Z
  have el:IntKind.i64.wrap (((K:Nat):Int)+(p.off:Nat))=(S:Nat):=by rw[AI];omega
  have dj:=ZB ai;have dk:=ZB ck;have b7:=ZB Q;have cm:=ZB a7;have dl:=ZB a1;have dm:=ZB b6;have dn:=ZB ak;have dp:=ZB bs;obtain⟨q,hq⟩:=ex R.items.length;have em:q<=6:=by rw[hq];exact b6.few
  have bf:=ZB hq;have a8:=(VD bd).2.2.2.1;rw[<- hq] at a8;clear ai ck Q a7 a1 b6 ak bs bc h0 cj
  gi_wp2_with (
   refine⟨trivial,?_⟩;refine bt.mono ?_;clear bt;rintro e dq ⟨rfl,af⟩;have cn:=(VD (bd.kO af)).2.2.2.1;rw[<- ZA bf] at cn)
  have T:=ZA b7;have co:kz w dq:=T.keep.tO af;obtain⟨al,bg⟩:=ex (JO I B (b2.map (fun x=>(x.1,x.2.1))));have bu:=T.out;rw[<- bg] at bu
  have cp:al.length<=600/\∀ j,(KQ I S (R.items.take j)).length<=6:=by
   have r:=T.len;have P:=(BS.1 (ZA dl).1).1;have h3:=ZA cf;rw[KAE] at P;refine⟨by rw[bg];omega,fun j=>?_⟩;have h4:=KAc I S (R.items.take j);rw[BH] at h4;have:=ZA bf;omega
  have cq:=ZB bg;have cr:=ZB cp;clear bg cp T;have dr:=QB (ZA cm).its af
  gi_loopw [13,38] (fun ds i wr=>∃ j:Nat,j<=q/\i=.int .i64 j/\ds=.int .i64 (S+ZG (R.items.take j):Nat)/\KeepT [164,159] V wr/\kz w wr /\
   ∃ Y,Boxed wr (w.heap.size+1+1+1) 159 Y/\wr.ownsRow w.heap.size 164 2 Y (al++KQ I S (R.items.take j)).length ((al++KQ I S (R.items.take j)).flatMap blc)) (fun _ i _=>q-(intOf i).toNat)
  case atStart=>
   refine⟨0,AP _,rfl,by simp[ZG],KeepT.of0 af,co,?_⟩;obtain⟨Y,r,P⟩:=bu;exact⟨Y,JA r af sq,by simpa [KQ] using QB P af⟩
  clear bu af co dr dh di a8 cn bd;have dt:=(ZA cm).its;obtain⟨j,hj,rfl,rfl,a2,ag,Y,u,a⟩:=hrel;by_cases en:j<q
  . have eo:((j:Nat):Int)<(q:Nat):=Z
    have a9:j<R.items.length:=by have:=ZA bf;omega
    have am:=a2.own dt (by decide);have ep:gi<wr.heap.size:=(VI JH (Rd.of_ownN am) a9 (j:=0) Z).1;have du:=(VI JH (Rd.of_ownN am) a9 (j:=0) Z).2;have dv:=(VI JH (Rd.of_ownN am) a9 (j:=1) Z).2;have dw:=(VI JH (Rd.of_ownN am) a9 (j:=2) Z).2;have dx:=(VI JH (Rd.of_ownN am) a9 (j:=3) Z).2;have ct:=(ZA dm).items _ (AN a9);have an:=ZA dn _ (AN a9);have bv:R.items.take (j+1)=R.items.take j++[R.items[j]]:=AO a9;have ao:=VAU I S (R.items.take j) R.items[j];have b8:=Jf (R.items.take j) R.items[j];rw[<- bv] at ao b8;obtain⟨lj,bh⟩:=ex (ZG (R.items.take j));have eq:lj<=6:=by have:=YK (R.items.take j);rw[BH] at this;omega
    rw[<- bh] at ao b8;obtain⟨y,hy⟩:=ex (S+lj);rw[<- bh,<- hy];have aa:=fun W=>AQ (n:=0).2 (Xh ct W);generalize R.items[j]=it at *;obtain⟨ik,E,bi,iv⟩:=it;have dy:=ex (PItem.loaded ⟨ik,E,bi,iv⟩);obtain⟨lb,ak⟩:=dy;rw[<- ak] at aa ao b8 an;have ab:=fun W (v:kz w W) (hl:lb=true)=>AQ (n:=0).2 (JAB (hI.kO v) E (y+1) (by rw[d3];exact an hl));simp only[itc,Bj,BX,BK] at du dv dw dx aa ao;have T:=ZA b7;have x6:=(a2.box T.b6 (by decide)).cell;have bw:=ZB ao;have bx:=ZB b8;have er:=ZB bv;have es:=ZB bh;have ap:=ZB hy;have b9:=ZB a2;have ac:=ZB ag;have et:y<=420:=Z
    clear ao b8 bv bh hy ct an T am ak a2 ag;cases lb
    . gi_wp2_with (refine⟨trivial,?_⟩;refine(aa _).mono ?_;clear aa;rintro e f ⟨rfl,a0⟩)
      go_roundw
      case rel=>
       have G:kz wr f:=((Keep.refl [] wr).alloc (.cells #[.int .i64 ik,.int .i64 E,.int .i64 bi,.int .i64 iv] 178)).tO a0;have e1:=ZA bw;simp only[Ap,CD,Bg] at e1;have e2:=ZA bx;simp only[Ap,CD,BK] at e2;exact⟨j+1,Z,by go_num,by rw[e2,<- ZA ap],(ZA b9).trans (KeepT.of0 G),(ZA ac).tO G,Y,JA u G sq,by rw[e1];exact QB a G⟩
      case measure=>simp[intOf];omega
    replace ab:=fun W v=>ab W v rfl
    obtain⟨z,bz⟩:=ex (y+1);have eu:IntKind.i64.wrap (((y:Nat):Int)+1)=(z:Nat):=by rw[AI];omega
    rw[<- bz] at ab;have ba:=ZB bz;obtain⟨dz,c2⟩:=ex (QS I E z);rw[<- c2] at ab;have cu:=ZB c2;have an:=Blk.new wr 178 #[.int .i64 ik,.int .i64 E,.int .i64 bi,.int .i64 iv];have cv:kz wr (wr.alloc (.cells #[.int .i64 ik,.int .i64 E,.int .i64 bi,.int .i64 iv] 178)):=kq.alloc _;clear bz c2;obtain⟨a3,oc,rfl,_⟩:=XB a;cases dz
    . gi_wp2_with (first
       | (refine⟨trivial,?_⟩
          refine(aa _).mono ?_;clear aa;rintro e f ⟨rfl,a0⟩;have G:=cv.tO a0;have i1:cl f (aq wr.heap.size 1) (ii E):=uq ((an.kO a0).cell 1)
          have e0:=(JA (show Boxed wr _ _ _ from (ZA b9).box (ZA b7).b6 (by decide)) G sq).cell)
       | (refine⟨trivial,?_⟩;refine(ab _ ((ZA ac).tO G)).mono ?_;clear ab;rintro e l ⟨rfl,rfl⟩))
      go_roundw
      case rel=>
       have e1:=ZA bw;have e3:=ZA cu;rw[ZA ba,ZA ap] at e3;simp only[Bo,<- e3,Ap,CD,Bg] at e1;have e2:=ZA bx;simp only[Bo] at e2;exact⟨j+1,Z,by go_num,by rw[e2,ZA ba,ZA ap,BY],(ZA b9).trans (KeepT.of0 G),(ZA ac).tO G,_,JA u G sq,by rw[e1];exact QB a G⟩
      case measure=>simp[intOf];omega
    obtain⟨ad,a4⟩:=ex (al++KQ I S (R.items.take j))
    obtain⟨h,a5⟩:=ex ad.length;have ev:h<=606:=by have r:=ZA cr;have P:=r.2 j;rw[a5,a4,AE];omega
    rw[<- a4,<- a5] at a;rw[<- a4,<- a5] at u;have c4:=ZB a4;have c5:=ZB a5;clear a4 a5
    gi_wp2_with (first
     | (refine⟨trivial,?_⟩
        refine(aa _).mono ?_;clear aa;rintro e f ⟨rfl,a0⟩;have G:=cv.tO a0;have i1:cl f (aq wr.heap.size 1) (ii E):=uq ((an.kO a0).cell 1)
        have e0:=(JA (show Boxed wr _ _ _ from (ZA b9).box (ZA b7).b6 (by decide)) G sq).cell;have ew:=(JA u G sq).cell;have ae:kz wr (f.alloc (.cells #[.int .i64 E,.int .i64 (z:Nat)] 164)):=G.alloc _;have ey:=ae.size;have ez:=(ZA ac).size
        have e4:Rd (f.alloc (.cells #[.int .i64 E,.int .i64 (z:Nat)] 164)) (some f.heap.size) (1*2) [.int .i64 E,.int .i64 (z:Nat)]:=YBf f _ _ _)
     | (refine⟨trivial,?_⟩;refine(ab _ ((ZA ac).tO G)).mono ?_;clear ab;rintro e l ⟨rfl,rfl⟩)
     | (gi_at_builtin
        refine elemTold.wpIn_app rfl _ _ rfl w.heap.size (.slice a3 h oc) h (ad.flatMap blc) rfl (QB a ae) ⟨f.heap.size,0,none⟩ 1 1 [.int .i64 E,.int .i64 (z:Nat)] rfl e4 (by simp[Value.oneCell']) Z Z Z ?_;rintro f0 l c6 c7 f1;obtain⟨ar,vc,rfl,_⟩:=XB c6;have a8:=JA (JA u ae sq) c7 (fun H=>(JA u ae sq).not_row (by decide) (QB a ae) (D0 (uq H)));have e3:=a8.cell;have f3:=a8.frozen))
    have c8:=a8.set (.slice ar (h+1) vc);have bb:Keep [w.heap.size+1+1+1] l (l.setCell ⟨w.heap.size+1+1+1,0,none⟩ (.slice ar (h+1) vc)):=kq.setCell (.inl sq) _;have c9:(l.setCell ⟨w.heap.size+1+1+1,0,none⟩ (.slice ar (h+1) vc)).ownsRow w.heap.size 164 2 (.slice ar (h+1) vc) (h+1) (ad.flatMap blc++[.int .i64 E,.int .i64 (z:Nat)]):=own_set c6 (fun H=>a8.not_row (by decide) c6 (D0 (uq H))) (.slice ar (h+1) vc);go_roundw
    case rel=>
     have e1:=ZA bw;have e3:=ZA cu;rw[ZA ba,ZA ap] at e3;simp only[Bo,<- e3] at e1;have e2:=ZA bx;simp only[Bo] at e2;have e5:al++KQ I S (R.items.take (j+1))=ad++[(E,z)]:=by rw[e1,ZA c4,ZA ba,ZA ap,BN]
     have cw:=QB a ae
     have e6:KeepT [164,159] (f.alloc (.cells #[.int .i64 E,.int .i64 (z:Nat)] 164)) l:=KeepT.ofKeep c7 (fun x C=>by
      rcases cw.2 with⟨r,_⟩ | ⟨bp,cap,dc,r,_,bq,_⟩
      . rw[r] at C;simp[Value.ownBlock] at C
      rw[r] at C
      obtain rfl:bp=x:=by simpa [Value.ownBlock,eq_comm] using C
      exact⟨_,_,bq,by decide⟩)
     have e7:KeepT [164,159] l (l.setCell ⟨w.heap.size+1+1+1,0,none⟩ (.slice ar (h+1) vc)):=KeepT.ofKeep bb (fun x C=>by simp at C;subst C;exact⟨_,_,a8,by decide⟩);refine⟨j+1,Z,by go_num,by rw[e2,ZA ba,ZA ap,BY],(((ZA b9).trans (KeepT.of0 ae)).trans e6).trans e7,?_,_,c8,?_⟩
     . refine(((ZA ac).tO ae).trans c7 (fun x C=>.inr ((own_mem cw (uq C)).1))).trans bb iq
     rw[e5]
     have h9:(ad++[(E,z)]).length=h+1:=by rw[AE,<- ZA c5];rfl
     rw[h9,BM];exact c9
    case measure=>simp[intOf];omega
  obtain rfl:j=q:=Z
  gi_wp2
  have T:=ZA b7;have cx:R.items.take j=R.items:=AK (by have:=ZA bf;omega);have e8:JC B p.seg+p.off=S:=by rw[ZA dp,ZA dk,ZA dj];rfl
  have cy:JO I B ((b2++[((p,R,.slice (some gi) R.items.length ic,.slice aj bl ci):PTold)]).map (fun x=>(x.1,x.2.1)))=al++KQ I S R.items:=by
   rw[Bf,CN,Cx,VAO,<- ZA cq];simp only[e8]
  rw[cx] at a;refine⟨a2,a2.box T.b5 (by decide),a2.box T.b6 (by decide),a2.box T.b7 (by decide),⟨Y,u,by rw[cy];exact a⟩,?_,hI.kO ag,hg.kO ag,ag,AB T.size a2.size⟩;have r:=T.len;have P:=(ZA cr).2 j;rw[<- ZA cq] at r;rw[cy,<- cx,AE,AE,Af];omega
 case done=>
  intro D' xs V f2 a6 Q cz;obtain⟨ca,f4,d0⟩:=a6;obtain⟨Y,u,a⟩:=Q.out;have bj:=Q.len;rw[ca] at a bj;have d1:xs.length=Rs.length:=by have:=congrArg List.length ca;rw[CJ,KAE] at this;exact this
  rw[d1] at bj;have f5:=ZA cf;obtain⟨ad,a4⟩:=ex (JO I B (placed p0 Rs));rw[<- a4] at a bj;obtain⟨h,a5⟩:=ex ad.length;rw[<- a5] at a bj;have c5:=ZB a5;have c4:=ZB a4;have ac:=ZB Q.keep;have f6:=ZB Q.size;have d2:=AQ (n:=2).2 (VBM d0);obtain⟨a3,oc,rfl,_⟩:=XB a;have f7:=u.cell;have f8:=u.frozen;have l8:=u.lt;clear a5 a4 bc h0 d0 Q ca d1;gi_wp2_with (refine⟨trivial,?_⟩;refine d2.mono ?_;clear d2;rintro e w' ⟨rfl,rfl⟩);have c8:=u.set (.slice a3 h oc);have bb:Keep [w.heap.size+1+1+1] V (V.setCell ⟨w.heap.size+1+1+1,0,none⟩ (.slice a3 h oc)):=kq.setCell (.inl sq) _;have c9:(V.setCell ⟨w.heap.size+1+1+1,0,none⟩ (.slice a3 h oc)).ownsRow w.heap.size 164 2 (.slice a3 h oc) h (ad.flatMap blc):=own_set a (fun H=>u.not_row (by decide) a (D0 (uq H))) (.slice a3 h oc);have cb:(V.setCell ⟨w.heap.size+1+1+1,0,none⟩ (.slice a3 h oc)).heap[D']? = some (.deferred (some [])):=(bb.block D' (AR.1 cz).1 (by simp;omega)).trans cz;have e9:=ZC (.deferred none) c8 cb rfl;have ea:=e9.cell;have ag:=((ZA ac).trans bb iq).putObj (g:=D') Z (.deferred none);refine⟨sq,.inl ⟨_,_,rfl,run_takeDeferred cb,?_⟩⟩;refine⟨.tuple #[.slice a3 h oc,.int .i64 0],?_,?_⟩
  . simp[results,results90,go_sem,ea]
  rw[<- ZA c4,<- ZA c5]
  exact⟨_,rfl,ownsRow_putObj c9 (.deferred none) cb rfl,ag⟩