/- Lemmas of the proof, with their conditions. -/
import Derived.Test.YtfedaknhecbehaaGreatL45
import Derived.Test.YtfedaknhecbehaaGreatL42
namespace Go.Proofs.YtfedaknhecbehaaGreat
open Tryz Go.RowKit Go.Shelf
variable {k j' b a old n m v f base s d g sg:Nat} {H:Nat->PPos} {bs:List UInt8} {D:PDisk} {l:List (Nat×Nat)} {w:World} {F:List Nat}
set_option linter.all false
set_option maxHeartbeats 8000000
set_option maxRecDepth 100000
def Moved (B:Nat) (S:PS) (b old:Nat) (S':PS):Prop:=
 ∃ D' us' lv1 W' a,Added B S.D S.us S.lv S.W ⟨4,b,0,old⟩ (JK B S.D S.W old) D' us' lv1 W' a /\
   S'={ S with D:=D',us:=us',lv:=Kg B lv1 a [(old:Nat)],W:=W',I:=QV S.I b old a }
theorem Good.any {B:Nat} {S:PS} {j:Nat} (h:Good B S k j):Good B S 100 j:=
 ⟨h.cap.any,h.now,h.many,h.flt,h.flen,h.b1,h.b64,h.bl,h.ol,h.brefs,h.orefs,h.seq,h.epoch,h.done⟩
theorem Good.later {B:Nat} {S:PS} {j:Nat} (h:Good B S k j) (a:j<=j'):Good B S k j':=
 ⟨h.cap.mono (AG _) a,h.now,h.many,h.flt,h.flen,h.b1,h.b64,h.bl,h.ol,h.brefs,h.orefs,by have:=h.seq;omega,by have:=h.epoch;omega,h.done⟩
theorem Good.ref {B:Nat} {S:PS} {j:Nat} (h:Good B S k j) (i:0<a) (c:KQ S.I b a):b<B/\RefOk B S (a:Nat)/\Lies B S.us S.W a:=by
 have l:=h.bl;have m:=h.ol
 have g:∀ x:Int,x=(a:Nat)->(x = -1\/RefOk B S x)->RefOk B S (a:Nat)/\Lies B S.us S.W a:=by
  rintro x rfl d;rcases d with d | d
  . omega
  refine⟨d,?_⟩;rcases d with d | ⟨_,d⟩
  . omega
  simpa using d
 rcases c with c | c
 . have f:b<B:=by
    rcases BP b B with e | e
    . exact e
    rw[KM Z] at c;omega
   rw[JH Z] at c;exact⟨f,g _ c (.inr (h.brefs _ (AQ _)))⟩
 have f:b<B:=by
  rcases BP b B with e | e
  . exact e
  rw[KM Z] at c;omega
 rw[JH Z] at c;exact⟨f,g _ c (h.orefs _ (AQ _))⟩
theorem Jx {B:Nat} {S:PS} {j:Nat} (b:Good B S k j) (d:0<a) (c:RefOk B S (a:Nat)):(JK B S.D S.W a).length=64/\ZF B S (a:Nat)=JK B S.D S.W a:=by
 have h:=XAa b c;unfold ZF at h ⊢;rw[AL Z] at h ⊢;exact⟨uq h,sq⟩
theorem ZAH (I:PImage) (b old a:Nat):(QV I b old a).bl.length=I.bl.length/\(QV I b old a).ol.length=I.ol.length:=by
 unfold QV;split <;> simp
theorem XAG (I:PImage) (b old a:Nat) (d:b<I.bl.length) (f:I.bl.length=I.ol.length) :
 (∀ c,(QV I b old a).bl.getD c 0=if c=b/\I.bl.getD b 0=(old:Nat) then ((a:Nat):Int) else I.bl.getD c 0)/\(∀ c,(QV I b old a).ol.getD c 0=if c=b/\I.bl.getD b 0≠(old:Nat) then ((a:Nat):Int) else I.ol.getD c 0):=by
 unfold QV;by_cases h:I.bl.getD b 0=(old:Nat)
 . rw[AP h]
   refine⟨fun c=>?_,fun c=>?_⟩
   . simp only
     rw[Jh _ _ _ _ d];by_cases e:c=b
     . rw[AP e,AP ⟨e,h⟩]
     rw[AL e,AL (fun x=>e x.1)]
   rw[AL (fun x=>x.2 h)]
 rw[AL h];refine⟨fun c=>?_,fun c=>?_⟩
 . rw[AL (fun x=>h x.2)]
 simp only;rw[Jh _ _ _ _ Z];by_cases e:c=b
 . rw[AP e,AP ⟨e,h⟩]
 rw[AL e,AL (fun x=>e x.1)]
theorem Moved.goodG {B:Nat} {S S':PS} {j:Nat} (h:Moved B S b old S') (c:Good B S k j) (p:KO S.us S.W 1) (r:0<old) (s:KQ S.I b old) :
 Good B S' (k+1) (j+1)/\QD B S'=QD B S/\JF B S'=JF B S/\S'.st=S.st:=by
 obtain⟨D',e,P,W',a,t,rfl⟩:=h;obtain⟨Q,H,I⟩:=c.ref r s;have R:=(JD c.b1 c.b64).2;have T:=I.hi;have J:PItem.May ⟨4,b,0,old⟩:=.inr (.inr (.inr (.inl ⟨rfl,by have:=c.b64;simp only;omega,rfl,by simp only;omega,by simp only;omega⟩)));obtain⟨K,L⟩:=Jx c r H;have u:=c.cap.addedG (i:=⟨4,b,0,old⟩) p J (fun _=>K) t;obtain⟨v,f,g,w,M⟩:=t.readsG c.cap (show KO S.us S.W (ZM ⟨4,b,0,old⟩) from p) c.now c.many;obtain⟨y,N⟩:=M rfl;have z:∀ x,Lies B S.us S.W x->Lies B e W' x/\JK B D' W' x=JK B S.D S.W x:=fun x d=>⟨(w x d).1,(w x d).2.1⟩;have l:=QT (B:=B) (S:=S) (S':={ S with D:=D',us:=e,W:=W' }) z c.brefs;have m:=YQ (B:=B) (S:=S) (S':={ S with D:=D',us:=e,W:=W' }) z c.orefs;have U:a≠0:=by have:=y.lo;omega
 have A:=c.bl;have C:=c.ol;obtain⟨V,X⟩:=ZAH S.I b old a;have E:RefOk B { S with D:=D',us:=e,W:=W' } (a:Nat):=.inr ⟨Z,uq y⟩
 have F:ZF B { S with D:=D',us:=e,W:=W' } (a:Nat)=ZF B S (old:Nat):=by
  rw[L,<- N];unfold ZF;rw[AL Z];simp
 by_cases d:S.I.bl.getD b 0=(old:Nat)
 . have n:QV S.I b old a={ S.I with bl:=S.I.bl.set b a,bd:=KF S.I.bl S.I.bd b a }:=by unfold QV;rw[AP d]
   rw[n];refine⟨⟨u,v,f.trans c.many,by simp only;rw[g];exact c.flt,by simp only;rw[g,f];exact c.flen,c.b1,c.b64,uq A,C,?_,m.1,by have:=c.seq;simp only;omega,by have:=c.epoch;simp only;omega,by have:=c.done;simp only;omega⟩,?_,m.2,rfl⟩
   . intro x d
     rcases AW d with d | rfl
     . exact l.1 x d
     exact E
   have o:QD B S=S.I.bl.map (ZF B { S with D:=D',us:=e,W:=W' }):=l.2.symm;show (S.I.bl.set b a).map (ZF B { S with D:=D',us:=e,W:=W' })=_;rw[CV,F,<- o];have O:b<(S.I.bl.map (ZF B S)).length:=by rw[BR];omega
   have:ZF B S (old:Nat)=(S.I.bl.map (ZF B S))[b]:=by
    rw[List.getElem_map,<- d,JH Z]
   unfold QD;rw[this,Cz]
 have G:S.I.ol.getD b 0=(old:Nat):=s.resolve_left d;have n:QV S.I b old a={ S.I with ol:=S.I.ol.set b a,od:=KF S.I.ol S.I.od b a }:=by unfold QV;rw[AL d]
 rw[n];refine⟨⟨u,v,f.trans c.many,by simp only;rw[g];exact c.flt,by simp only;rw[g,f];exact c.flen,c.b1,c.b64,A,uq C,l.1,?_,by have:=c.seq;simp only;omega,by have:=c.epoch;simp only;omega,by have:=c.done;simp only;omega⟩,l.2,?_,rfl⟩
 . intro x d
   rcases AW d with d | rfl
   . exact m.1 x d
   exact .inr E
 have o:JF B S=S.I.ol.map (fun a=>if a = -1 then none else some (ZF B { S with D:=D',us:=e,W:=W' } a)):=m.2.symm;show (S.I.ol.set b a).map (fun a=>if a = -1 then none else some (ZF B { S with D:=D',us:=e,W:=W' } a))=_;rw[CV,AL Z,F,<- o];have O:b<(S.I.ol.map (fun a=>if a = -1 then none else some (ZF B S a))).length:=by rw[BR];omega
 have:some (ZF B S (old:Nat))=(S.I.ol.map (fun a=>if a = -1 then none else some (ZF B S a)))[b]:=by
  rw[List.getElem_map];rw[JH Z] at G;rw[G,AL Z]
 unfold JF;rw[this,Cz]
theorem Yq {B:Nat} {S:PS} {j:Nat} (d:Good B S k j) (f:∀ x,Lies B S.us S.W x->x≠a) (g:0<a):(∀ c,S.I.bl.getD c 0≠(a:Nat))/\∀ c,S.I.ol.getD c 0≠(a:Nat):=
 ⟨fun c e=>f a (d.ref g (b:=c) (.inl e)).2.2 rfl,fun c e=>f a (d.ref g (b:=c) (.inr e)).2.2 rfl⟩
theorem Moved.extG {B:Nat} {S S':PS} {j:Nat} (h:Moved B S b old S') (c:Good B S k j) (r:KO S.us S.W 1) (y:j<=100000) (z:0<old) (t:KQ S.I b old) (M:Dist S.I) (d:Ext B S):Ext B S':=by
 obtain⟨D',N,A,W',a,u,rfl⟩:=h;obtain⟨O,P,Q⟩:=c.ref z t;obtain⟨f,g⟩:=u.extG c (show KO S.us S.W (ZM ⟨4,b,0,old⟩) from r) y d;obtain⟨R,T,U,C,D⟩:=u.readsG c.cap (show KO S.us S.W (ZM ⟨4,b,0,old⟩) from r) c.now c.many;obtain⟨v,V⟩:=D rfl;have E:0<a:=by have:=v.lo;omega
 have F:(a-(6+4*pgs B)) / 24<8:=by have:=v.hi;omega
 have W:=c.ol;have X:=c.bl;obtain⟨G,H⟩:=Yq c (fun x d=>(C x d).2.2 rfl) E;have e:=fun s=>LiveOk.small (S:={ S with lv:=A }) g ⟨c.cap,c.now,c.many,c.flt,c.flen,c.b1,c.b64,c.bl,c.ol,c.brefs,c.orefs,c.seq,c.epoch,c.done⟩ s;obtain⟨I,J⟩:=YZ (B:=B) (zs:=[((old:Nat):Int)]) g.len e F;obtain⟨K,w⟩:=XAG S.I b old a Z Z;refine⟨f,⟨I,fun s f=>?_,fun i hi=>?_⟩,d.slot,d.lie0,d.lie1⟩
 . rw[J s f,g.live s f]
   unfold VZ;simp only;rw[Bu,Do];by_cases d:S.I.bl.getD b 0=(old:Nat)
   . have e:QV S.I b old a={ S.I with bl:=S.I.bl.set b a,bd:=KF S.I.bl S.I.bd b a }:=by unfold QV;rw[AP d]
     rw[e];simp only;have m:=JZ (p:=QM B s) (l:=S.I.bl) (i:=b) (a:=(a:Nat)) Z;rw[JH Z] at d;rw[d] at m
     have L:(if QM B s (old:Nat) then 1 else 0)<=S.I.bl.countP (QM B s):=by
      split
      . exact B7.2 ⟨S.I.bl[b]' Z,AQ _,by rw[d];assumption⟩
      omega
     omega
   have n:S.I.ol.getD b 0=(old:Nat):=t.resolve_left d;have e:QV S.I b old a={ S.I with ol:=S.I.ol.set b a,od:=KF S.I.ol S.I.od b a }:=by unfold QV;rw[AL d]
   rw[e];simp only;have m:=JZ (p:=QM B s) (l:=S.I.ol) (i:=b) (a:=(a:Nat)) Z;rw[JH Z] at n;rw[n] at m
   have L:(if QM B s (old:Nat) then 1 else 0)<=S.I.ol.countP (QM B s):=by
    split
    . exact B7.2 ⟨S.I.ol[b]' Z,AQ _,by rw[n];assumption⟩
    omega
   omega
 simp only at hi ⊢;rw[K,w];rw[w] at hi;by_cases o:i=b/\S.I.bl.getD b 0≠(old:Nat)
 . rw[AP o,AL (fun h=>o.2 h.2)]
   exact(G i).symm
 rw[AL o] at hi ⊢
 split
 . exact H i
 exact d.liv.diff i hi
theorem Moved.logG {B:Nat} {S S':PS} {j:Nat} (h:Moved B S b old S') (l:Good B S k j) (u:KO S.us S.W 1) (D:j<=100000) (E:0<old) (v:KQ S.I b old) (F:VU (JK B S.D S.W old)) (G:LogS B S) (r:Dist S.I):LogS B S'/\Dist S'.I /\
 ∀ c x:Nat,0<x->x≠old->KQ S.I c x->KQ S'.I c x:=by
 obtain⟨D',T,U,W',a,w,rfl⟩:=h;obtain⟨I,V,W⟩:=l.ref E v;obtain⟨H,R,J,y⟩:=G;obtain⟨K,L,M,z,A⟩:=J.added w l.cap (show KO S.us S.W (ZM ⟨4,b,0,old⟩) from u) D l.now l.many sq (fun _=>I) (fun _=>F);obtain⟨X,Y,r3,N,O⟩:=w.readsG l.cap (show KO S.us S.W (ZM ⟨4,b,0,old⟩) from u) l.now l.many;obtain⟨P,rb⟩:=O rfl;have a0:=l.ol;have a1:=l.bl;have Q:0<a:=by have:=P.lo;omega
 obtain⟨s,t⟩:=Yq l (fun x m=>(N x m).2.2 rfl) Q;obtain⟨n,o⟩:=XAG S.I b old a Z Z;refine⟨⟨K,L,M,fun c C x m f=>?_⟩,⟨fun c e g d=>?_,fun c e g d=>?_,fun c e g=>?_⟩,fun c x m a2 f=>?_⟩
 . rcases f with f | f
   . simp only at f
     rw[n] at f
     split at f
     . rename_i e
       obtain⟨rfl,_⟩:=e;obtain rfl:a=x:=Z;exact A rfl
     exact z c x (y c C x m (.inl f))
   simp only at f;rw[o] at f
   split at f
   . rename_i e
     obtain⟨rfl,_⟩:=e;obtain rfl:a=x:=Z;exact A rfl
   exact z c x (y c C x m (.inr f))
 . simp only at g d
   rw[n] at g d;rw[n] at d
   split at d
   . rename_i i
     split at d
     . rename_i p;rw[i.1,p.1]
     exact absurd d.symm (s e)
   rename_i i;rw[AL i] at g
   split at d
   . exact absurd d (s c)
   exact r.bb c e g d
 . simp only at g d
   rw[o] at g d;rw[o] at d
   split at d
   . rename_i i
     split at d
     . rename_i p;rw[i.1,p.1]
     exact absurd d.symm (t e)
   rename_i i;rw[AL i] at g
   split at d
   . exact absurd d (t c)
   exact r.oo c e g d
 . simp only at g ⊢
   rw[n] at g ⊢;rw[o]
   split
   . rename_i i
     split
     . rename_i p;exact absurd i.2 p.2
     exact(t e).symm
   rename_i i;rw[AL i] at g
   split
   . exact s c
   exact r.bo c e g
 have a3:=r.bo;rcases f with f | f
 . refine .inl ?_
   simp only;rw[n,AL]
   . exact f
   rintro⟨rfl,e⟩;omega
 refine .inr ?_;simp only;rw[o,AL]
 . exact f
 rintro⟨rfl,e⟩;have:=v.resolve_left e;omega
def Dropped (B:Nat) (S:PS) (b n:Nat) (S':PS):Prop:=
 ∃ D' us' lv1 W' a,Added B S.D S.us S.lv S.W ⟨6,b,n,0⟩ [] D' us' lv1 W' a /\
   S'={ S with D:=D',us:=us',lv:=Kg B lv1 0 (XF b n S.I.bl S.I.bd).1,W:=W',I:={ S.I with bl:=(XF b n S.I.bl S.I.bd).2.1,bd:=(XF b n S.I.bl S.I.bd).2.2 } }
def Synced (B:Nat) (S:PS) (S':PS):Prop:=∃ D2 us2 W2,Emitted B S.D S.us S.W D2 us2 W2/\S'={ S with D:=D2.flush,us:=us2,W:=W2 }
theorem Km (b n:Nat) (l:List Int) (ds:List Bool) (x:Nat):(XF b n l ds).2.1.getD x 0=if b<=x/\x<b+n/\x<l.length then 0 else l.getD x 0:=by
 rw[AB,VY]
 split
 . rfl
 rw[<- AB]
theorem LogS.less {B:Nat} {S S':PS} {c:Nat->PPos} {R d:Nat->List PRec} (f:∀ b,b<B->∀ a:Nat,0<a->KQ S.I b a->RefTold B (stOf S.us) S.W H R b a) (g:∀ b a,RefTold B (stOf S.us) S.W H R b a->RefTold B (stOf S'.us) S'.W c d b a)
 (i:LogOn B S'.D (stOf S'.us) S'.W c d) (hi:∀ b (a:Nat),0<a->KQ S'.I b a->KQ S.I b a):LogS B S':=
 ⟨c,d,i,fun b j a e h=>g b a (f b j a e (hi b a e h))⟩
theorem Trimmed.logG {B:Nat} {S S':PS} {j:Nat} (h:Trimmed B S b n S') (i:Good B S k j) (o:KO S.us S.W (ZM ⟨2,b,n,0⟩)) (p:j<=100000) (r:LogS B S) (l:Dist S.I):LogS B S'/\Dist S'.I:=by
 obtain⟨D',A,C,W',a,s,rfl⟩:=h;obtain⟨H,R,t,u⟩:=r;obtain⟨D,E,v,w,F⟩:=t.added s i.cap o p i.now i.many sq (fun h=>by cases h) (fun h=>by cases h);have y:=fun x=>Km b n S.I.ol S.I.od x
 have g:∀ x:Nat,0<(XF b n S.I.ol S.I.od).2.1.getD x 0->(XF b n S.I.ol S.I.od).2.1.getD x 0=S.I.ol.getD x 0:=fun x d=>by
  rw[y] at d ⊢
  split at d
  . omega
  rename_i e;rw[AL e]
 refine⟨LogS.less u w v (fun c x G f=>?_),⟨l.bb,fun c e d m=>?_,fun c e d m=>?_⟩⟩
 . rcases f with f | f
   . exact .inl f
   simp only at f;exact .inr (by rw[<- g c Z];exact f)
 . simp only at d m
   have I:=g c d;have z:=g e Z;exact l.oo c e Z Z
 simp only at d m;have z:=g e Z;exact l.bo c e d Z
theorem Dropped.goodG {B:Nat} {S S':PS} {j:Nat} (h:Dropped B S b n S') (c:Good B S k j) (f:KO S.us S.W (ZM ⟨6,b,n,0⟩)) (t:1<=n) (A:b+n<=B) :
 Good B S' (k+1) (j+1)/\QD B S'=XP (QD B S) b n zeros64/\JF B S'=JF B S/\S'.st=S.st:=by
 obtain⟨D',e,C,W',a,g,rfl⟩:=h;have u:PItem.May ⟨6,b,n,0⟩:=.inr (.inl ⟨.inr rfl,by have:=c.b64;simp only;omega,t,by have:=c.b64;simp only;omega,rfl⟩);have v:=c.cap.addedG f u (fun h=>by cases h) g;obtain⟨w,l,m,o,E⟩:=g.readsG c.cap f c.now c.many;have p:∀ x,Lies B S.us S.W x->Lies B e W' x/\JK B D' W' x=JK B S.D S.W x:=fun x d=>⟨(o x d).1,(o x d).2.1⟩;have r:=QT (B:=B) (S:=S) (S':={ S with D:=D',us:=e,W:=W' }) p c.brefs;have s:=YQ (B:=B) (S:=S) (S':={ S with D:=D',us:=e,W:=W' }) p c.orefs;have y:=c.bl;have z:=(KH b n S.I.bl S.I.bd).1;refine⟨⟨v,w,l.trans c.many,by simp only;rw[m];exact c.flt,by simp only;rw[m,l];exact c.flen,c.b1,c.b64,by simp only;rw[z];exact y,c.ol,?_,s.1,by have:=c.seq;simp only;omega,by have:=c.epoch;simp only;omega,by have:=c.done;simp only;omega⟩,?_,s.2,rfl⟩
 . intro x d
   obtain⟨i,hi⟩:=Cj d;rw[VY] at hi
   split at hi
   . cases hi;exact .inl rfl
   exact r.1 x (Bn hi)
 apply Bs;intro x;rw[YS];unfold QD;simp only[Aa,BR];rw[VY]
 split
 . simp only[Ao,Ae]
   unfold ZF;rw[AP rfl]
 rw[<- Aa,<- Aa];exact congrArg (·[x]?) r.2
theorem Dropped.extG {B:Nat} {S S':PS} {j:Nat} (h:Dropped B S b n S') (c:Good B S k j) (g:KO S.us S.W (ZM ⟨6,b,n,0⟩)) (l:j<=100000) (u:b+n<=B) (d:Ext B S):Ext B S':=by
 obtain⟨D',v,m,W',a,o,rfl⟩:=h;obtain⟨e,f⟩:=o.extG c g l d;have w:=c.bl;have p:=fun s=>LiveOk.small (S:={ S with lv:=m }) f ⟨c.cap,c.now,c.many,c.flt,c.flen,c.b1,c.b64,c.bl,c.ol,c.brefs,c.orefs,c.seq,c.epoch,c.done⟩ s;obtain⟨r,t⟩:=YZ (B:=B) (a:=0) (zs:=(XF b n S.I.bl S.I.bd).1) f.len p Z;refine⟨e,⟨r,fun s e=>?_,fun i hi=>?_⟩,d.slot,d.lie0,d.lie1⟩
 . rw[t s e,f.live s e]
   unfold VZ;simp only;have y:=KAG B s b n S.I.bl S.I.bd Z;rw[VK (a:=((0:Nat):Int)) Z];simp only[Aj,Bt];omega
 simp only at hi ⊢;rw[Km]
 split
 . omega
 exact d.liv.diff i hi
theorem Dropped.logG {B:Nat} {S S':PS} {j:Nat} (h:Dropped B S b n S') (i:Good B S k j) (o:KO S.us S.W (ZM ⟨6,b,n,0⟩)) (p:j<=100000) (r:LogS B S) (l:Dist S.I):LogS B S'/\Dist S'.I:=by
 obtain⟨D',A,C,W',a,s,rfl⟩:=h;obtain⟨H,R,t,u⟩:=r;obtain⟨D,E,v,w,F⟩:=t.added s i.cap o p i.now i.many sq (fun h=>by cases h) (fun h=>by cases h);have y:=fun x=>Km b n S.I.bl S.I.bd x
 have g:∀ x:Nat,0<(XF b n S.I.bl S.I.bd).2.1.getD x 0->(XF b n S.I.bl S.I.bd).2.1.getD x 0=S.I.bl.getD x 0:=fun x d=>by
  rw[y] at d ⊢
  split at d
  . omega
  rename_i e;rw[AL e]
 refine⟨LogS.less u w v (fun c x G f=>?_),⟨fun c e d z=>?_,l.oo,fun c e d=>?_⟩⟩
 . rcases f with f | f
   . simp only at f
     exact .inl (by rw[<- g c Z];exact f)
   exact .inr f
 . simp only at d z
   have m:=g c d;have I:=g e Z;exact l.bb c e Z Z
 simp only at d ⊢;have m:=g c d;rw[m] at d ⊢;exact l.bo c e d
theorem PutDone.extG {B:Nat} {S S':PS} {j:Nat} (h:PutDone B S b bs S') (c:Good B S k j) (g:KO S.us S.W 1) (r:j<=100000) (F:b<B) (d:Ext B S):Ext B S':=by
 obtain⟨D',G,t,W',a,m,rfl⟩:=h;obtain⟨e,f⟩:=m.extG c g r d;obtain⟨H,I,J,u,v⟩:=m.readsG c.cap g c.now c.many;obtain⟨n,K⟩:=v rfl;have w:0<a:=by have:=n.lo;omega
 have y:(a-(6+4*pgs B)) / 24<8:=by have:=n.hi;omega
 have L:=c.bl;obtain⟨z,A⟩:=Yq c (fun x d=>(u x d).2.2 rfl) w;have C:=fun s=>LiveOk.small (S:={ S with lv:=t }) f ⟨c.cap,c.now,c.many,c.flt,c.flen,c.b1,c.b64,c.bl,c.ol,c.brefs,c.orefs,c.seq,c.epoch,c.done⟩ s;obtain⟨D,E⟩:=YZ (B:=B) (zs:=[QF (S.I.bl.getD b 0) a]) f.len C y;refine⟨e,⟨D,fun s e=>?_,fun i hi=>?_⟩,d.slot,d.lie0,d.lie1⟩
 . rw[E s e,f.live s e]
   unfold VZ;simp only;have M:=JZ (p:=QM B s) (l:=S.I.bl) (i:=b) (a:=(a:Nat)) Z;have o:=z b;rw[JH Z] at o;rw[Bu,Do,JH Z,Yh (fun _=>o)]
   have N:(if QM B s (S.I.bl[b]' Z) then 1 else 0)<=S.I.bl.countP (QM B s):=by
    split
    . exact B7.2 ⟨S.I.bl[b]' Z,AQ _,by assumption⟩
    omega
   omega
 simp only at hi ⊢;rw[Jh _ _ _ _ Z]
 split
 . exact A i
 exact d.liv.diff i hi
theorem PutDone.logG {B:Nat} {S S':PS} {j:Nat} (h:PutDone B S b bs S') (g:Good B S k j) (p:KO S.us S.W 1) (w:j<=100000) (y:b<B) (z:VU bs) (A:LogS B S) (o:Dist S.I):LogS B S'/\Dist S'.I:=by
 obtain⟨D',O,P,W',a,r,rfl⟩:=h;obtain⟨H,R,C,s⟩:=A;obtain⟨D,E,F,t,G⟩:=C.added r g.cap p w g.now g.many sq (fun _=>y) (fun _=>z);obtain⟨Q,T,U,I,J⟩:=r.readsG g.cap p g.now g.many;obtain⟨K,V⟩:=J rfl;have W:=g.bl;have L:0<a:=by have:=K.lo;omega
 obtain⟨u,M⟩:=Yq g (fun x m=>(I x m).2.2 rfl) L;have n:=fun c=>Jh S.I.bl b c (a:Nat) Z;refine⟨⟨D,E,F,fun c v x m i=>?_⟩,⟨fun c e d f=>?_,o.oo,fun c e d=>?_⟩⟩
 . rcases i with i | i
   . simp only at i
     rw[n] at i
     split at i
     . rename_i e
       subst e;obtain rfl:a=x:=Z;exact G rfl
     exact t c x (s c v x m (.inl i))
   exact t c x (s c v x m (.inr i))
 . simp only at d f
   rw[n] at d f;rw[n] at f
   split at f
   . rename_i l
     split at f
     . rename_i N;rw[l,N]
     exact absurd f.symm (u e)
   rename_i l
   split at f
   . exact absurd f (u c)
   rw[AL l] at d;exact o.bb c e d f
 simp only at d ⊢;rw[n] at d ⊢
 split
 . exact(M e).symm
 rename_i l;rw[AL l] at d;exact o.bo c e d
theorem Synced.good {B:Nat} {S S':PS} {j:Nat} (h:Synced B S S') (a:Good B S k j) (c:Ext B S) (t:j<=100000) :
 Good B S' k (j+1)/\Ext B S'/\QD B S'=QD B S/\JF B S'=JF B S/\S'.st=S.st:=by
 obtain⟨b,f,d,e,rfl⟩:=h;have o:=a.cap.mark e 1 Z b.flush (by show b.acts+1<=_;omega);obtain⟨p,r⟩:=e.reads a.cap.ok a.now a.many a.cap.seg a.cap.off;obtain⟨_,_,s,_,_,_,_,_,_,_,_,g,_,_,i⟩:=e.facts a.cap.ok;have u:=a.cap.lsn;have l:∀ x,Lies B S.us S.W x->Lies B f d x/\JK B b.flush d x=JK B S.D S.W x:=r;have m:=QT (B:=B) (S:=S) (S':={ S with D:=b.flush,us:=f,W:=d }) l a.brefs;have n:=YQ (B:=B) (S:=S) (S':={ S with D:=b.flush,us:=f,W:=d }) l a.orefs;refine⟨⟨o,p,g.trans a.many,?_,?_,a.b1,a.b64,a.bl,a.ol,m.1,n.1,by have:=a.seq;simp only;omega,by have:=a.epoch;simp only;omega,a.done⟩,⟨?_,c.liv,c.slot,c.lie0,c.lie1⟩,m.2,n.2,rfl⟩
 . show ∀ x∈b.faults,x=false
   rw[i];exact a.flt
 . show b.faults.length=b.n
   rw[i,g];exact a.flen
 simp only;rw[s];exact e.segs c.segs Z
theorem Emitted.stOf {B:Nat} {D':PDisk} {us a:List (Nat×Nat)} {W W':PW} (b:Emitted B D us W D' a W') (s:Nat):stOf a s=stOf us s:=by
 rcases b with⟨_,_,rfl,_⟩ | ⟨_,c,d,e,f,_,_,_,_,rfl,_⟩
 . rfl
 exact VI _ _ _ _
theorem Synced.log {B:Nat} {S S':PS} {j:Nat} (h:Synced B S S') (a:Good B S k j) (u:j<=100000) (e:LogS B S) (f:Dist S.I):LogS B S'/\Dist S'.I:=by
 obtain⟨v,w,y,b,rfl⟩:=h;obtain⟨H,R,g,i⟩:=e;have z:=a.cap.lsn;obtain⟨l,m,n,o⟩:=g.emitted b a.cap.ok a.now a.many a.cap.off Z;have d:=b.stOf;exact⟨⟨l,m,(n.st (fun s _=>by rw[d])).congr (fun x _=>rfl),fun c p x r t=>(o c x (i c p x r t)).st (fun s _ h=>by rw[d];exact h)⟩,f⟩
theorem Checked.log {B:Nat} {S S':PS} {j:Nat} (h:Checked B S S') (b:Good B S k j) (m:Ext B S) (T:j<=100000) (v:LogS B S) (n:Dist S.I):LogS B S'/\Dist S'.I:=by
 obtain⟨U,g,w,D',V,W,i,y,X,Y,rfl⟩:=h;obtain⟨H,a0,z,A⟩:=v;have a1:=b.cap.lsn;obtain⟨C,D,o,E⟩:=z.emitted i b.cap.ok b.now b.many b.cap.off Z;obtain⟨e1,e2,e3,e4,e5,e6,e7,e8,e9,a2,a3⟩:=b.cap.emitted i;obtain⟨F,q2⟩:=i.reads b.cap.ok b.now b.many b.cap.seg b.cap.off;have p:=i.stOf;have a4:=b.cap.seg
 have hrel:∀ s,s<8->stOf (KU g S.lv 8) s=stOf S.us s\/(s≠w.pos.seg/\stOf S.us s≠0/\stOf (KU g S.lv 8) s=0/\S.lv.getD s 0=0):=fun s d=>by
  have G:=Zr g S.lv 8 s Z;unfold Go.Proofs.YtfedaknhecbehaaGreat.stOf at *;rw[G]
  split
  . rename_i J
    obtain⟨K,L⟩:=Zj J.2;refine .inr ⟨fun e=>?_,by rw[<- p s];omega,rfl,L⟩;rw[e] at K;omega
  exact .inl (p s)
 have M:=o.release (st':=stOf (KU g S.lv 8)) (fun s d=>(hrel s d).imp id (fun h=>⟨h.1,h.2.1,h.2.2.1⟩));refine⟨⟨C,D,M.congr (fun x m=>y.now (by rw[F]) x m),fun c N x O P=>?_⟩,⟨n.bb,n.oo,n.bo⟩⟩;have f:KQ S.I c x:=P;rcases E c x (A c N x O f) with l | ⟨s,d,l,r⟩
 . exact .inl l
 refine .inr ⟨s,d,?_,r⟩;rcases hrel s d with t | ⟨_,_,_,t⟩
 . simp only;rw[t];exact l
 exfalso;obtain⟨t1,Q,R⟩:=o.told_in s d l _ r
 have u:=QBJ (B:=B) (I:=S.I) (a:=(x:Int)) (by
  have a5:=b.bl;have a6:=b.ol;rcases f with f | f
  . left;rw[<- f,JH Z];exact AQ _
  right;rw[<- f,JH Z];exact AQ _) Z
 simp only[BK] at u;rw[JAA (s:=s) (by simp only at Q;omega) (uq R),<- m.liv.live s d] at u;omega
structure Well (B:Nat) (S:PS) (j:Nat):Prop where
 good:Good B S 100 j
 ext:Ext B S
 log:LogS B S
 dist:Dist S.I
 nkb:∀ r∈QD B S,VU r
 nko:∀ r,some r∈JF B S->VU r
theorem notKR_zeros:VU zeros64:=fun⟨h,_⟩=>by simp[zeros64] at h
theorem notKR_nil:VU []:=fun⟨h,_⟩=>by simp at h
namespace Well
variable {B:Nat} {S S':PS} {j:Nat}
theorem later (h:Well B S j) (a:j<=j'):Well B S j':=⟨h.good.later a,h.ext,h.log,h.dist,h.nkb,h.nko⟩
theorem frees (h:Well B S j) {a:Bool} (b:RoomOk S.us S.W m a):KO S.us S.W m:=b.frees h.good.cap.ul
theorem room (h:Well B S j) (m:Nat) (a:Bool):RoomOk S.us S.W m a\/Qg S.us S.W m a:=by
 by_cases b:Qg S.us S.W m a
 . exact .inr b
 exact .inl (RoomOk.of b h.good.cap.ul)
theorem ref (h:Well B S j) (d:0<a) (c:KQ S.I b a):b<B/\Lies B S.us S.W a/\VU (JK B S.D S.W a)/\(JK B S.D S.W a).length=64:=by
 obtain⟨g,i,k⟩:=h.good.ref d c;obtain⟨m,o⟩:=Jx h.good d i;refine⟨g,k,?_,m⟩;rw[<- o];have p:=h.good.bl;have r:=h.good.ol;rcases c with c | c
 . refine h.nkb _ ?_
   unfold QD;rw[<- c,JH Z];exact List.mem_map_of_mem (AQ _)
 refine h.nko _ ?_;unfold JF;rw[JH Z] at c;have e:=List.mem_map_of_mem (f:=fun a=>if a = -1 then none else some (ZF B S a)) (AQ (l:=S.I.ol) (n:=b) Z);rw[c,AL Z] at e;exact e
theorem wrote (w:Well B S j) (h:Wrote B S b bs S') (c:KO S.us S.W 1) (o:j<=90000) (d:b<B) (i:bs.length=64) (e:VU bs) :
 Well B S' (j+1)/\QD B S'=QD B S/\JF B S'=(JF B S).set b (some bs)/\S'.st={ S.st with seq:=S.st.seq+1 }:=by
 obtain⟨k,f,g,l⟩:=h.goodG w.good c d i;obtain⟨m,n⟩:=h.logG w.good c Z d e w.log w.dist;refine⟨⟨k.any,h.extG w.good c Z d w.ext,m,n,by rw[f];exact w.nkb,fun r a=>?_⟩,f,g,l⟩;rw[g] at a;rcases AW a with a | a
 . exact w.nko r a
 cases a;exact e
theorem trimmed (w:Well B S j) (h:Trimmed B S b n S') (a:KO S.us S.W 0) (p:j<=90000) (g:1<=n) (c:b+n<=B) :
 Well B S' (j+1)/\QD B S'=QD B S/\JF B S'=XP (JF B S) b n (some zeros64)/\S'.st={ S.st with seq:=S.st.seq+1 }:=by
 obtain⟨k,d,e,l⟩:=h.goodG w.good a g c;obtain⟨m,o⟩:=h.logG w.good a Z w.log w.dist;refine⟨⟨k.any,h.extG w.good a Z c w.ext,m,o,by rw[d];exact w.nkb,fun r f=>?_⟩,d,e,l⟩;rw[e] at f;obtain⟨i,hi⟩:=Cj f;rw[YS] at hi
 split at hi
 . cases hi;exact notKR_zeros
 exact w.nko r (Bn hi)
theorem marked {e:Nat} (w:Well B S j) (h:Marked B S e S') (b:KO S.us S.W 0) (o:j<=90000) (p:e=S.st.epoch+1) :
 Well B S' (j+2)/\QD B S'=JR (QD B S) (JF B S)/\JF B S'=List.replicate B none/\S'.st={ S.st with epoch:=e,seq:=S.st.seq+1,done:=S.st.seq+1 }:=by
 have s:=w.good.epoch;obtain⟨f,c,d,g⟩:=h.goodG w.good b Z Z;obtain⟨k,l⟩:=h.logG w.good b Z Z w.log w.dist;refine⟨⟨f.any,h.extG w.good b Z Z w.ext,k,l,fun r a=>?_,fun r a=>?_⟩,c,d,g⟩
 . rw[c] at a
   unfold JR at a;obtain⟨i,hi⟩:=Cj a;rw[C0] at hi
   split at hi
   . rename_i u v m n
     simp only[Ae] at hi;subst hi;rcases v with _ | v
     . exact w.nkb _ (Bn m)
     exact w.nko _ (Bn n)
   cases hi
 rw[d] at a;have:=AV a;cases this
theorem put (w:Well B S j) (h:PutDone B S b bs S') (c:KO S.us S.W 1) (v:j<=90000) (e:b<B) (m:bs.length=64) (f:VU bs) :
 Well B S' (j+1)/\QD B S'=(QD B S).set b bs/\JF B S'=JF B S/\S'.st=S.st:=by
 obtain⟨n,g,o⟩:=h.goodG w.good c e m;obtain⟨p,s⟩:=h.logG w.good c Z e f w.log w.dist
 have i:JF B S'=JF B S:=by
  obtain⟨D',t,y,W',a,u,rfl⟩:=h;obtain⟨z,A,C,k,E⟩:=u.readsG w.good.cap c w.good.now w.good.many;exact(YQ (B:=B) (S:=S) (S':={ S with D:=D',us:=t,W:=W' }) (fun x l=>⟨(k x l).1,(k x l).2.1⟩) w.good.orefs).2
 refine⟨⟨n.any,h.extG w.good c Z e w.ext,p,s,fun r d=>?_,by rw[i];exact w.nko⟩,g,i,o⟩;rw[g] at d;rcases AW d with d | rfl
 . exact w.nkb r d
 exact f
theorem dropped (w:Well B S j) (h:Dropped B S b n S') (a:KO S.us S.W 0) (p:j<=90000) (g:1<=n) (c:b+n<=B) :
 Well B S' (j+1)/\QD B S'=XP (QD B S) b n zeros64/\JF B S'=JF B S/\S'.st=S.st:=by
 obtain⟨k,d,e,l⟩:=h.goodG w.good a g c;obtain⟨m,o⟩:=h.logG w.good a Z w.log w.dist;refine⟨⟨k.any,h.extG w.good a Z c w.ext,m,o,fun r f=>?_,by rw[e];exact w.nko⟩,d,e,l⟩;rw[d] at f;obtain⟨i,hi⟩:=Cj f;rw[YS] at hi
 split at hi
 . cases hi;exact notKR_zeros
 exact w.nkb r (Bn hi)
theorem synced (w:Well B S j) (h:Synced B S S') (i:j<=90000):Well B S' (j+1)/\QD B S'=QD B S/\JF B S'=JF B S/\S'.st=S.st:=by
 obtain⟨c,d,a,b,e⟩:=h.good w.good w.ext Z;obtain⟨f,g⟩:=h.log w.good Z w.log w.dist;exact⟨⟨c,d,f,g,by rw[a];exact w.nkb,by rw[b];exact w.nko⟩,a,b,e⟩
theorem moved (w:Well B S j) (h:Moved B S b old S') (e:KO S.us S.W 1) (r:j<=90000) (a:0<old) (d:KQ S.I b old) :
 Well B S' (j+1)/\QD B S'=QD B S/\JF B S'=JF B S/\S'.st=S.st/\∀ c x:Nat,0<x->x≠old->KQ S.I c x->KQ S'.I c x:=by
 obtain⟨_,i,k,_⟩:=w.ref a d;have s:=i.hi;have t:=(JD w.good.b1 w.good.b64).2;obtain⟨l,f,g,m⟩:=h.goodG w.good e a d;obtain⟨n,o,p⟩:=h.logG w.good e Z a d k w.log w.dist;exact⟨⟨l.any,h.extG w.good e Z a d w.dist w.ext,n,o,by rw[f];exact w.nkb,by rw[g];exact w.nko⟩,f,g,m,p⟩
theorem checked (w:Well B S j) (h:Checked B S S') (i:j<=90000):Well B S' (j+1)/\QD B S'=QD B S/\JF B S'=JF B S/\S'.st={ S.st with gen:=S.st.gen+1 }:=by
 obtain⟨c,d,a,b,e⟩:=h.good w.good w.ext Z;obtain⟨f,g⟩:=h.log w.good w.ext Z w.log w.dist;exact⟨⟨c,d,f,g,by rw[a];exact w.nkb,by rw[b];exact w.nko⟩,a,b,e⟩
theorem pos (w:Well B S j):S.W.pos.Ok:=by
 obtain⟨H,R,h,-⟩:=w.log;exact h.pos
theorem forgot (w:Well B S j) (view mode:Nat) (od:List Bool):Well B (Forgot B S view mode od) j/\QD B (Forgot B S view mode od)=QD B S/\JF B (Forgot B S view mode od)=List.replicate B none:=by
 obtain⟨k,h,i⟩:=Forgot.good (view:=view) (mode:=mode) (od:=od) w.good;obtain⟨H,R,l,e⟩:=w.log
 have f:∀ c,(Ql S.I.ol S.I.ol.length).getD c 0<=0:=fun c=>by
  rw[VP,AB,Ay]
  split <;> simp
 refine⟨⟨k,Forgot.ext w.good w.ext,⟨H,R,l,fun b m a n d=>e b m a n ?_⟩,⟨w.dist.bb,fun b c g _=>?_,fun b c g o=>?_⟩,by rw[h];exact w.nkb,fun r e=>?_⟩,h,i⟩
 . rcases d with d | d
   . exact .inl d
   have:=f b;simp only[Forgot] at d;omega
 . have:=f b;simp only[Forgot] at g;omega
 . have:=f c;simp only[Forgot] at g o;omega
 rw[i] at e;have:=AV e;cases this
theorem raised {view mode:Nat} (w:Well B S j) (h:Raised B S view mode S') (a:j<=90000):Well B S' (j+1)/\QD B S'=QD B S/\JF B S'=List.replicate B none/\S'.st={ S.st with seq:=S.st.done,view:=view,mode:=mode,gen:=S.st.gen+1 }:=by
 obtain⟨od,h⟩:=h;obtain⟨b,c,d⟩:=w.forgot view mode od;obtain⟨e,f,g,i⟩:=b.checked h a;exact⟨e,f.trans c,g.trans d,i⟩
theorem does {o:POp} (w:Well B S j) (h:Does B S o S') (e:Vg B o) (i:VU o.d) (l:Good B S k j) (n:k<=50) (b:j<=90000):Well B S' (j+2):=by
 have c:∀ m,m<=1->KO S.us S.W m:=fun m p=>l.cap.frees n p;rcases h with⟨f,a⟩ | ⟨f,a⟩ | ⟨f,a,r⟩
 . rcases e with⟨_,s,t,g⟩ | ⟨d,_⟩ | ⟨d,_⟩
   . exact(w.wrote a (c 1 Z) b Z g i).1.later Z
   . omega
   omega
 . rcases e with⟨d,_⟩ | ⟨_,s,t,g⟩ | ⟨d,_⟩
   . omega
   . exact(w.trimmed a (c 0 Z) b Z Z).1.later Z
   omega
 exact(w.marked r (c 0 Z) b Z).1
end Well
theorem KAV {B:Nat} {od:List Bool} (t:Good B (PS.mounted B D od) k 0) (h:Fmt B D):Well B (PS.mounted B D od) 0:=by
 have j:∀ b,(PS.mounted B D od).I.bl.getD b 0=0:=fun b=>by
  show (List.replicate B (0:Int)).getD b 0=0;by_cases l:b<B
  . rw[JH (uq l)];simp
  rw[KM (by simp;omega)]
 have n:∀ b,(PS.mounted B D od).I.ol.getD b 0<=0:=fun b=>by
  show (List.replicate B (-1:Int)).getD b 0<=0;by_cases l:b<B
  . rw[JH (uq l)];simp
  rw[KM (by simp;omega)];omega
 have E:=h.n;have w1:=Xh D (6+4*pgs B) (List.replicate 64 0) h.len Z sq;have u:(VAP B 1 2).length=64:=length_supB ..
 have v:∀ x,6+4*pgs B<=x->x<198+4*pgs B->seg 64 (JAl B D).now x=List.replicate 64 0:=fun x w y=>by
  show seg 64 ((D.write (6+4*pgs B) (List.replicate 64 0)).write 0 (VAP B 1 2)).now x=_;rw[QX _ _ _ w1 (by show 0<D.n;omega) u,AL Z,QX _ _ _ h.len Z sq]
  split
  . rfl
  exact h.log x w y
 have o:∀ s,s<8->∀ k,k<24->seg 64 (JAl B D).now (VC B s+k)=List.replicate 64 0:=fun s e k g=>v _ (by unfold VC;omega) (by unfold VC;omega)
 have z:∀ s,s<8->s≠0->stOf (PS.mounted B D od).us s=0:=fun s e f=>by
  show (((1,0) :: List.replicate 7 (0,0)).getD s (0,0)).1=0;obtain⟨k,rfl⟩:∃ k,s=k+1:=⟨s-1,Z⟩;rw[List.getD_cons_succ,AB,Ay,AP Z];rfl
 have p:∀ s,s<8->∀ k,k<24->Stale (JAl B D) (VC B s+k) (24-k) 1:=fun s e k g=>.inl (by rw[o s e k g];simp[VU]);refine⟨t.any,PS.mounted_ext B D od,⟨fun _=>⟨0,0,1,0,1⟩,fun _=>[],⟨fun s e _ k g=>p s e k g,by simp[stOf,PS.mounted,us0],by simp[PS.mounted,PPos.Ok],fun _=>⟨rfl,o 0 Z 0 Z⟩,fun h=>by simp[PS.mounted] at h,fun k _ g=>p 0 Z k g,fun s e f A=>absurd (z s e A) f,sq,by simp[PS.mounted],sq,sq,by simp[PS.mounted]⟩,fun b _ a i d=>?_⟩,⟨fun b c f _=>by rw[j] at f;omega,fun b c f _=>by have:=n b;omega,fun b c f=>by rw[j] at f;omega⟩,fun r d=>?_,fun r d=>?_⟩
 . rcases d with d | d
   . rw[j] at d;omega
   have:=n b;omega
 . unfold QD at d
   obtain⟨a,i,rfl⟩:=Cv.1 d;have m:a∈List.replicate B (0:Int):=i;obtain rfl:=AV m;unfold ZF;rw[AP rfl];exact notKR_zeros
 unfold JF at d;obtain⟨a,i,C⟩:=Cv.1 d;have m:a∈List.replicate B (-1:Int):=i;obtain rfl:=AV m;cases C
theorem DoesL.well {B:Nat} {S:PS} {l:List POp} {S':PS} (h:DoesL B S l S') (d:Good B S 0 0) (e:Well B S 0) (f:l.length<=50) (a:∀ o∈l,Vg B o/\VU o.d):Good B S' l.length (2*l.length)/\Well B S' (2*l.length):=by
 induction h with
 | nil=>exact⟨d,e⟩
 | @snoc l o S1 S2 h k ih=>
   rw[AE,Al] at f ⊢;obtain⟨b,w1⟩:=ih Z (fun o h=>a o (by simp[h]));obtain⟨c,g⟩:=a o sq;obtain⟨i,_⟩:=k.good c b Z Z;exact⟨i.mono (AG _) Z,(w1.does k c g b Z Z).later Z⟩
theorem QBI {B:Nat} (b:1<=B/\B<=64) (zs:List (Int×Int×Int)) (n:Nat) (d:n<=1000):∀ o∈(JO B zs n).1,Vg B o/\VU o.d:=by
 induction n with
 | zero=>intro o a;simp[JO] at a
 | succ n ih=>
   intro o a;have c:(JO B zs (n+1)).1=(JO B zs n).1++[(QO B (zs.getD n (0,0,0)) (JO B zs n).2).1]:=rfl;rw[c] at a;rcases AD.1 a with a | a
   . exact ih Z o a
   rw[Ak] at a;subst a;have e:=Xm B zs n;refine⟨(Xj B b (zs.getD n (0,0,0)) (JO B zs n).2 Z).1,?_⟩;unfold QO
   split
   . exact notKR_nil
   split
   . exact notKR_nil
   exact ZAd _
inductive Moves (B:Nat) (S:PS):List (Nat×Nat)->PS->Prop
 | nil:Moves B S [] S
 | snoc {l:List (Nat×Nat)} {x:Nat×Nat} {S1 S2:PS} (h:Moves B S l S1) (hr:RoomOk S1.us S1.W 1 true) (k:Moved B S1 x.1 x.2 S2):Moves B S (l++[x]) S2
def KBq (I:PImage) (l:List (Nat×Nat)):Prop:=(∀ x∈l,0<x.2/\KQ I x.1 x.2)/\l.Pairwise (fun x y=>x.2<y.2)
theorem Moves.well {B:Nat} {S S':PS} {j:Nat} (h:Moves B S l S') (w:Well B S j) (g:j+l.length<=90000):∀ a,KBq S.I (l++a) ->
 Well B S' (j+l.length)/\QD B S'=QD B S/\JF B S'=JF B S/\S'.st=S.st/\KBq S'.I a:=by
 induction h with
 | nil=>intro a b;exact⟨w,rfl,rfl,rfl,b⟩
 | @snoc l x S1 S2 h hr k ih=>
   intro a b;rw[AE,Al] at g ⊢;rw[BG] at b;obtain⟨w1,b1,i,m,d,c⟩:=ih Z ([x]++a) b;obtain⟨n,o⟩:=d x sq;obtain⟨p,r,s,t,u⟩:=w1.moved k (w1.frees hr) Z n o;rw[List.singleton_append,List.pairwise_cons] at c;refine⟨p,r.trans b1,s.trans i,t.trans m,fun y e=>?_,c.2⟩;obtain⟨f,v⟩:=d y (by simp[e]);have:=c.1 y e;exact⟨f,u y.1 y.2 f Z v⟩
structure ClList (B:Nat) (S:PS) (v:Nat) (T:List (Nat×Nat)):Prop where
 ok:KBq S.I T
 blk:∀ x∈T,x.1<B
 here:∀ x∈T,VC B v<x.2/\x.2<VC B v+24
 all:∀ b a:Nat,0<a->KQ S.I b a->VC B v<=a->a<VC B v+24->(b,a)∈T
theorem KBn {lo hi:Nat} (a:l.Pairwise (fun x y=>x.2<y.2)) (h:∀ x∈l,lo<=x.2/\x.2<hi):l.length<=hi-lo:=by
 induction l generalizing lo with
 | nil=>simp
 | cons x l ih=>
   rw[List.pairwise_cons] at a;have c:=h x sq;have:=ih (lo:=x.2+1) a.2 (fun y b=>⟨a.1 y b,(h y (by simp[b])).2⟩);simp only[Am];omega
theorem ClList.len {B:Nat} {S:PS} {T:List (Nat×Nat)} (h:ClList B S v T):T.length<=23:=by
 have:=KBn (lo:=VC B v+1) (hi:=VC B v+24) h.ok.2 (fun x a=>by have:=h.here x a;omega);omega
theorem VAn {p:PPos} {Rs:List PRec} {R:PRec} (h:R∈Rs):∃ q,(q,R)∈placed p Rs:=by
 induction Rs generalizing p with
 | nil=>cases h
 | cons S Rs ih=>
   rcases AM.1 h with rfl | h
   . exact⟨p,by simp[placed]⟩
   obtain⟨q,a⟩:=ih (p:=S.behind p) h;exact⟨q,by simp[placed,a]⟩
theorem YAm {I:PImage} (h:JS I b a=true):KQ I b a:=by
 unfold JS Xg at h;simp only[Cy,Ar] at h;rcases h with h | h
 . exact .inl h
 split at h
 . exact .inl h
 exact .inr h
theorem VAh {I:PImage} (h:KQ I b a):JS I b a=true:=by
 unfold JS Xg;simp only[Cy,Ar];rcases h with h | h
 . exact .inl h
 right;rw[AL Z];exact h
theorem YBi {B:Nat} {S:PS} {R:Nat->List PRec} (i:LogOn B S.D (stOf S.us) S.W H R) (m:∀ b,b<B->∀ a:Nat,0<a->KQ S.I b a->RefTold B (stOf S.us) S.W H R b a) (G:S.I.bl.length=B) (I:S.I.ol.length=B) (k:v<8) (l:stOf S.us v≠0) (J:v≠S.W.pos.seg) (n:S.W.items≠[]->XD S.W.pos.off S.W.blocks.length<=23) (K:S.W.blocks.length=ZG S.W.items) :
 ClList B S v (VO S.I B (placed (H v) (R v))):=by
 obtain⟨p0,b0,-,-,-,o⟩:=i.begins v k l
 have t:=(VBi B (H v) (R v) (fun r u=>by
  obtain⟨q,w⟩:=VAn (p:=H v) u;exact(o _ w).2.2.1.many)).1
 have g:∀ x,x∈VO S.I B (placed (H v) (R v))->x∈KT B (placed (H v) (R v))/\JS S.I x.1 x.2=true:=fun x c=>by
  rw[Kb,List.mem_filter] at c;exact c
 have j:=i.told_in v k l;refine⟨⟨fun x c=>?_,?_⟩,fun x c=>(j x (g x c).1).1,fun x c=>(j x (g x c).1).2,fun b a y f z L=>?_⟩
 . have z:=j x (g x c).1
   exact⟨Z,YAm (g x c).2⟩
 . rw[Kb]
   exact t.filter _
 rw[Kb,List.mem_filter];refine⟨?_,VAh f⟩
 have A:b<B:=by
  rcases BP b B with d | d
  . exact d
  rcases f with f | f
  . rw[KM Z] at f;omega
  rw[KM Z] at f;omega
 rcases m b A a y f with d | ⟨s,C,D,d⟩
 . exfalso
   have h:=Yd _ _ _ d;have E:S.W.items≠[]:=fun e=>by rw[e] at d;simp[KAC] at d
   have F:=n E;simp only at h;unfold XD at h F;unfold VC at *;omega
 have h:=i.told_in s C D _ d
 have:s=v:=by
  simp only at h;unfold VC at *;omega
 subst this;exact d
theorem Well.cl {B:Nat} {S:PS} {j:Nat} (w:Well B S j) (c:v<8) (f:(S.us.getD v (0,0)).1=2):v≠S.W.pos.seg/\∃ H R,LogOn B S.D (stOf S.us) S.W H R/\ClList B S v (VO S.I B (placed (H v) (R v))):=by
 obtain⟨H,R,a,d⟩:=w.log
 have b:v≠S.W.pos.seg:=fun e=>by
  have:=w.good.cap.opn;rw[<- e] at this;omega
 exact⟨b,H,R,a,YBi a d w.good.bl w.good.ol c (by unfold stOf;omega) b (fun h=>w.good.cap.ok.fit h) w.good.cap.ok.many⟩
def ZAA (S:PS):Bool:=(Kq S.us S.lv S.W.pos.lsn).isSome && decide (YD S.us<=2)
inductive Rnd (B:Nat) (S:PS):Nat->Nat->PS->Prop
 | first {S1:PS} (h:Checked B S S1):Rnd B S 0 (relO S.us S.lv 8).length S1
 | more {n f:Nat} {S1 S2 S3:PS} {x:Nat×Nat×Nat} {T:List (Nat×Nat)} (h:Rnd B S n f S1) (hw:ZAA S1=true) (hp:Kq S1.us S1.lv S1.W.pos.lsn=some x) (hT:ClList B S1 x.2.2 T) (hm:Moves B S1 T S2) (hc:Checked B S2 S3):Rnd B S (n+1) (f+(relO S2.us S2.lv 8).length) S3
theorem Rnd.well {B:Nat} {S S':PS} {j:Nat} (h:Rnd B S n f S') (w:Well B S j) (o:j+(1+24*n)<=90000):Well B S' (j+(1+24*n))/\QD B S'=QD B S/\JF B S'=JF B S/\S'.st={ S.st with gen:=S.st.gen+(1+n) }/\f<=8*(1+n):=by
 induction h with
 | first h=>
   obtain⟨w1,b1,a,b⟩:=w.checked h Z
   exact⟨w1.later Z,b1,a,by rw[b],by have:=KAB S.us S.lv 8;omega⟩
 | @more n f S1 S2 S3 x T h hw hp hT hm hc ih=>
   obtain⟨w1,b1,a,b,p⟩:=ih Z;have r:=hT.len;obtain⟨c,d,e,g,-⟩:=hm.well w1 Z [] (by rw[Ba];exact hT.ok);obtain⟨i,k,l,m⟩:=c.checked hc Z;refine⟨i.later Z,k.trans (d.trans b1),l.trans (e.trans a),?_,by have:=KAB S2.us S2.lv 8;omega⟩;rw[m,g,b];simp only[PSt.mk.injEq,true_and];omega
def RoundEnd (B:Nat) (S:PS) (f:Nat) (S':PS):Prop:=
 ∃ n,n<=64/\((Rnd B S n f S'/\(n=64\/ZAA S'=false)) \/
   (n<64/\∃ S1 x T T1 T2,Rnd B S n f S1/\ZAA S1=true/\Kq S1.us S1.lv S1.W.pos.lsn=some x/\ClList B S1 x.2.2 T/\T=T1++T2/\Moves B S1 T1 S'/\Qg S'.us S'.W 1 true))
theorem RoundEnd.well {B:Nat} {S S':PS} {j:Nat} (h:RoundEnd B S f S') (w:Well B S j) (o:j<=88000):Well B S' (j+1600)/\QD B S'=QD B S/\JF B S'=JF B S/\∃ n,n<=65/\S'.st={ S.st with gen:=S.st.gen+n }:=by
 obtain⟨n,p,⟨h,_⟩ | ⟨r,s,x,T,t,d,h,_,_,c,rfl,e,_⟩⟩:=h
 . obtain⟨w1,b1,a,b,_⟩:=h.well w Z
   exact⟨w1.later Z,b1,a,1+n,Z,b⟩
 obtain⟨w1,b1,a,b,_⟩:=h.well w Z;have g:=c.len;rw[AE] at g;obtain⟨i,k,l,m,-⟩:=e.well w1 Z d c.ok;exact⟨i.later Z,k.trans b1,l.trans a,1+n,Z,by rw[m,b]⟩
def XBq (x y:Int) (old:Nat):Prop:=x=(old:Nat)\/(¬ x=(old:Nat)/\y=(old:Nat))
theorem ZBJ {B:Nat} {S:PS} (h:StoreAt w base s d F B S) {j:Nat} (i:Good B S k j) (ab:RoomOk S.us S.W 1 true) (hj:j<=100000) (h0:0<old) (o:KQ S.I b old) :
 Calls prog 92 #[pq s,b,old] w fun e w'=>e=.returned zz/\∃ F' S',StoreAt w' base s d F' B S'/\Moved B S b old S'/\Keep F w w'/\Grow w F F':=by
 obtain⟨g,t,p,m,Fd,Ft,Fw,r,D,E,h,rfl⟩:=h;obtain⟨G,al,I⟩:=i.ref h0 o;have am:=(JD h.log.geom.pos h.log.geom.few).2;have an:=I.lo;have ac:=I.hi;have ad:=ZY w base s d g t p m Fd Ft Fw r D E B S h b 1 Z Z;have ae:=QS w base s d g t p m Fd Ft Fw r D E B S h 0 (.inl rfl);rw[show ((0:Nat):Int)=0 from rfl] at ae;rw[show ((1:Nat):Int)=1 from rfl] at ad;have af:=Zy h.img b (by rw[i.bl];exact G);have ag:=ZAK h.img b (by rw[i.bl];exact G) (by rw[i.ol];exact G);have ah:=ZAB h.log i.flt i.flen i.cap.ok old (by rw[i.many];exact ac);have ao:PItem.May ⟨4,b,0,old⟩:=.inr (.inr (.inr (.inl ⟨rfl,by have:=i.b64;simp only;omega,rfl,by simp only;omega,by simp only;omega⟩)));obtain⟨x,f⟩:∃ x,x=S.I.bl[b]'(by rw[i.bl];exact G):=⟨_,rfl⟩;obtain⟨y,hy⟩:=ex (Xg S.I b)
 have b1:XBq x y old:=by
  by_cases J:x=(old:Nat)
  . exact .inl J
  refine .inr ⟨J,?_⟩;have b2:S.I.bl.getD b 0=x:=by rw[f];exact Yg (by rw[i.bl];exact G)
  rcases o with o | o
  . exact absurd (b2.symm.trans o) J
  rw[hy];unfold Xg;rw[o,AL Z]
 rw[<- f] at af;rw[<- hy] at ag;obtain⟨bs,a7⟩:=ex (JK B S.D S.W old);have c2:bs.length=64:=by rw[a7];exact(Jx i h0 al).1
 rw[<- a7] at ah;have b3:=JB a7;clear a7 f hy;have ai:=h.blk;have ap:s∉Fd++(Ft++Fw):=fun n=>h.aps (by simp only[AM,AD] at n ⊢;rcases n with n | n | n <;> simp[n])
 have ar:∀ x∈Fd++(Ft++Fw),x<w.heap.size:=fun x f=>by
  simp only[AD] at f;rcases f with f | f | f
  . exact h.log.disk.lt x f
  . exact h.log.tab.lt x f
  exact h.log.wri.lt x f
 have b4:=i.cap.acts;have b5:=i.cap.lsn
 have a8:=fun a9 U c (C:kz w a9) (hu:a9.ownsRow w.heap.size 5 1 (.slice U 64 c) 64 (bys bs))=>QAG (h.log.kO C) i.cap.ok i.cap.off Z Z i.cap.opn ao sq ab (A:=U) c bs (by simpa [ZM,PItem.loaded] using Rd.of_own hu) (fun x f n=>by
  have q1:=ar _ n;have q2:=(own_mem hu (g:=x.block) (by rw[f];simp[Value.ownBlock])).1;omega)
 rw[show 64*ZM ⟨4,b,0,old⟩=64 by simp[ZM,PItem.loaded]] at a8;simp only[itc] at a8;have b6:=JB a8;clear a8 b4 b5;have K:=JB i;have b7:=JB ab;have b8:Hid (StoreIs w base s d g t p m Fd Ft Fw r D E B S):=h;have b9:=JB o;have ba:=JB ac;have bb:=JB an;have c4:(0:Int)<(old:Nat):=Z;have bc:=JB G;have bd:=JB ap;obtain⟨L,M,N,O,P,Q,R,T,V,W,X,Y,a0,a1,a2,a3,a4,a5⟩:=KC ai;clear h i ab al I am an ac ao ar o G ap;go_enter func92,ntmps92;rcases b1 with J | ⟨J,c5⟩
 all_goals
  go_wp2_with (first
   | (go_at_call 109;refine ad.mono ?_;clear ad;rintro e w' ⟨rfl,rfl⟩)
   | (go_at_call 93;refine ae.mono ?_;clear ae;rintro e w' ⟨rfl,rfl⟩)
   | (go_at_call 111;refine af.mono ?_;clear af;rintro e w' ⟨rfl,rfl⟩)
   | (go_at_call 113;refine ag.mono ?_;clear ag;rintro e w' ⟨rfl,rfl⟩)
   | (go_at_call 215
      refine ah.mono ?_;clear ah L M N O P Q R T V W X Y a0 a1 a2 a3 a4 a5;rintro e w1 ⟨bf,uc,rfl,hu,C⟩;have H:=(JA b6) w1 bf uc C hu
      obtain⟨L,M,N,O,P,Q,R,T,V,W,X,Y,a0,a1,a2,a3,a4,a5⟩:=KC (ai.kO C))
   | (go_at_call 105
      refine H.mono ?_;clear H L M N O P Q R T V W X Y a0 a1 a2 a3 a4 a5;rintro e w2 ⟨a,rfl,au,av,bg,bh,bi,a9,h1,H,aj,bj,bk⟩;have bl:=(ai.kO C).keep aj (JA bd);obtain⟨L,M,N,O,P,Q,R,T,V,W,X,Y,a0,a1,a2,a3,a4,a5⟩:=KC bl;obtain⟨aa,bm⟩:=((show StoreIs w base s d g t p m Fd Ft Fw r D E B S from JA b8).kO C).setLog h1 aj bj bk;rw[JA b3] at H;obtain⟨_,_,_,_,a6⟩:=H.readsG (JA K).cap ((JA b7).frees (JA K).cap.ul) (JA K).now (JA K).many;obtain⟨a6,_⟩:=a6 rfl;have bn:=a6.lo;have bo:=a6.hi;have am:=(JD aa.log.geom.pos aa.log.geom.few).2;have aw:=YBX aa.img b old a (by rw[(JA K).bl];exact JA bc) Z Z (JA b9);have bp:=JB H
      clear H a6)
   | (go_at_call 216
      refine aw.mono ?_;clear aw L M N O P Q R T V W X Y a0 a1 a2 a3 a4 a5;rintro e w3 ⟨rfl,bq,ax⟩;have ay:=aa.setImg bq (ZAH S.I b old a).1 ax;have az:kz w3 (w3.alloc (.cells #[old] 3)):=kq.alloc _;have br:=JT w3 (.int .i64 (old:Nat)) 3;have bt:∀ x∈Ft,x<w3.heap.size:=fun x f=>ay.log.tab.lt x f
      have b0:=Yf _ base s d g t p m au Ft av r D E B _ (ay.kO az) a (.inr ⟨bn,bo⟩) _ 1 1 [((old:Nat):Int)] br (by intro z hz;simp at hz;subst hz;exact .inr ⟨JA bb,JA ba⟩) Z (fun x f n=>by cases f;have:=bt _ n;simp at this))
   | (go_at_call 107
      refine b0.mono ?_;clear b0;rintro e w4 ⟨rfl,bu,bv⟩))
  go_ret;have ak:∀ {l:List Nat} {u v:World},(∀ x∈l,x=s\/x∈Fd\/x∈Ft\/x∈Fw\/x∈r)->Keep l u v->Keep (ZN s g Fd Ft Fw r D E) u v:=fun I hk=>hk.sub (YAt I);have bw:=C.zero.trans (ak (by intro x f;simp only[AD] at f;rcases f with h | h | h <;> simp[h]) aj) (fun x f=>.inl f);have bx:=bw.trans (ak (by intro x f;simp[f]) ax) (fun x f=>.inl f);have bz:=(bx.tO az).trans (ak (by intro x f;simp[f]) bv) (fun x f=>.inl f);exact⟨rfl,_,_,⟨g,t,p,m,au,Ft,av,r,D,E,bu,rfl⟩,⟨bg,bh,bi,a9,a,JA bp,rfl⟩,bz,bm.keep C⟩
theorem XBR {B:Nat} {S:PS} (h:StoreAt w base s d F B S) {j:Nat} (a:Good B S k j) (E:Qg S.us S.W 1 true) (h0:0<old) (f:KQ S.I b old) :
 cr 92 #[pq s,b,old] w (ii 6):=by
 obtain⟨g,t,p,m,Fd,Ft,Fw,G,H,I,h,rfl⟩:=h;obtain⟨i,a9,r⟩:=a.ref h0 f;have aa:=(JD h.log.geom.pos h.log.geom.few).2;have ab:=r.lo;have J:=r.hi;have u:=ZY w base s d g t p m Fd Ft Fw G H I B S h b 1 Z Z;have v:=QS w base s d g t p m Fd Ft Fw G H I B S h 0 (.inl rfl);rw[show ((0:Nat):Int)=0 from rfl] at v;rw[show ((1:Nat):Int)=1 from rfl] at u;have z:=Zy h.img b (by rw[a.bl];exact i);have A:=ZAK h.img b (by rw[a.bl];exact i) (by rw[a.ol];exact i);have K:=ZAB h.log a.flt a.flen a.cap.ok old (by rw[a.many];exact J);have L:PItem.May ⟨4,b,0,old⟩:=.inr (.inr (.inr (.inl ⟨rfl,by have:=a.b64;simp only;omega,rfl,by simp only;omega,by simp only;omega⟩)));obtain⟨x,C⟩:∃ x,x=S.I.bl[b]'(by rw[a.bl];exact i):=⟨_,rfl⟩;obtain⟨y,D⟩:=ex (Xg S.I b)
 have ac:XBq x y old:=by
  by_cases l:x=(old:Nat)
  . exact .inl l
  refine .inr ⟨l,?_⟩;have ad:S.I.bl.getD b 0=x:=by rw[C];exact Yg (by rw[a.bl];exact i)
  rcases f with f | f
  . exact absurd (ad.symm.trans f) l
  rw[D];unfold Xg;rw[f,AL Z]
 rw[<- C] at z;rw[<- D] at A;generalize JK B S.D S.W old=bs at *;clear C D;have M:=h.blk;have o:=fun ae U c (n:kz w ae)=>YAy (h.log.kO n) a.cap.ok L sq E U c;rw[show 64*ZM ⟨4,b,0,old⟩=64 by simp[ZM,PItem.loaded]] at o;simp only[itc] at o;have af:=JB o;clear o;have ai:(0:Int)<(old:Nat):=Z;obtain⟨N,O,P,Q,R,T,V,W,X,Y,a0,a1,a2,a3,a4,a5,a6,a7⟩:=KC M;clear h a E a9 r aa ab J L f i;go_enter func92,ntmps92;rcases ac with l | ⟨l,aj⟩
 all_goals
  go_wp2_with (first
   | (go_at_call 109;refine u.mono ?_;clear u;rintro e w' ⟨rfl,rfl⟩)
   | (go_at_call 93;refine v.mono ?_;clear v;rintro e w' ⟨rfl,rfl⟩)
   | (go_at_call 111;refine z.mono ?_;clear z;rintro e w' ⟨rfl,rfl⟩)
   | (go_at_call 113;refine A.mono ?_;clear A;rintro e w' ⟨rfl,rfl⟩)
   | (go_at_call 215
      refine K.mono ?_;clear K N O P Q R T V W X Y a0 a1 a2 a3 a4 a5 a6 a7;rintro e w1 ⟨ag,uc,rfl,hu,n⟩;have a8:=(JA af) w1 ag uc n
      obtain⟨N,O,P,Q,R,T,V,W,X,Y,a0,a1,a2,a3,a4,a5,a6,a7⟩:=KC (M.kO n))
   | (go_at_call 105
      refine a8.mono ?_;clear a8;rintro e w2 ⟨rfl,ah⟩))
  go_ret;exact⟨rfl,n.tO ah⟩
section
open Go.RowKit Go.Shelf
attribute [local go_sem] AZ
theorem ZAI (p:PPos) (Rs:List PRec):(placed p Rs).length=Rs.length:=by
 induction Rs generalizing p with
 | nil=>rfl
 | cons R Rs ih=>simp[placed,ih]
theorem VBe (w:World) (x y:Value) (e:TypeId):Rd (w.alloc (.cells #[x,y] e)) (some w.heap.size) (1*2) [x,y]:=by
 have a:=Blk.new w e #[x,y];refine⟨rfl,fun _=>⟨_,_,rfl,a.lt,fun j u b=>?_⟩⟩;have h:=a.cell j;simp only[A6];rw[h];simpa using b
theorem YBQ {q:PPos} (a:YM w s d g sg q):cq 214 #[pq s] w zz:=by
 unfold YM at a;have b:=(cells14 a).2.2.2.2.2.2.2.2.2.2.2.2.2;go_enter func214,ntmps214
 go_wp2
 go_ret;exact⟨rfl,rfl⟩
structure KOf (w:World) (base m g B sg:Nat) (Fm:List Nat) (I:PImage) (b5 b6 b7 oc N:Nat) (pre:List PTold) (W:World):Prop where
 b5:Boxed W b5 46 (.pointer (some g))
 b6:Boxed W b6 128 (.pointer (some m))
 b7:Boxed W b7 3 (.int .i64 (sg:Nat))
 out:∃ OV,Boxed W oc 159 OV/\W.ownsRow w.heap.size 164 2 OV (VO I B (pre.map (fun x=>(x.1,x.2.1)))).length ((VO I B (pre.map (fun x=>(x.1,x.2.1)))).flatMap blc)
 len:(VO I B (pre.map (fun x=>(x.1,x.2.1)))).length<=6*pre.length
 img:ImageAt W base m Fm I
 geom:GeomAt W g B
 keep:kz w W
 size:N<=W.heap.size
set_option pp.deepTerms.threshold 500
set_option pp.maxSteps 1000000
theorem KAl {B:Nat} {p0:PPos} {b0:Bool} {bi:List Nat} {I:PImage} {Rs:List PRec} (hg:GeomAt w g B) (ag:DiskAt w base d F D) (hI:ImageAt w base m bi I) (d0:I.bl.length=B) (d1:D.off=false) (hn:D.n=198+4*pgs B) (bj:sg<=7) (hf:∀ k,k<D.n->D.faults[k]? = some false)
 (c9:Begins D B sg p0 b0 Rs)
 (ca:∀ x∈placed p0 Rs,x.1.seg=sg/\x.1.off<=24/\x.2.May/\∀ i∈x.2.items,i.loaded=true->i.b<B) (cb:Rs.length<=100) :
 Calls prog 90 #[.pointer (some d),.pointer (some g),.pointer (some m),.int .i64 (sg:Nat)] w fun e w'=>∃ U,e=.returned (.tuple #[U,.int .i64 0]) /\
  w'.ownsRow w.heap.size 164 2 U (VO I B (placed p0 Rs)).length ((VO I B (placed p0 Rs)).flatMap blc)/\kz w w':=by
 have a5:=fun W (v:kz w W)=>AR (n:=2).2 (QAi d sg (hg.kO v) bj);have d2:=JB a5;have d3:=JB ca;have cc:=JB cb;have d4:=JB c9;have d5:=JB hf;clear a5 ca cb c9 hf;refine(AR (n:=3)).1 ?_;refine callsIn_of_wp_marks func90 rfl trivial ?_ rfl;simp only[ntmps90,PL,Nat.reduceAdd,Nat.reduceSub];obtain⟨wa,ap⟩:=ex (w.alloc (.cells #[.pointer (some g)] 46));obtain⟨wb,ar⟩:=ex (wa.alloc (.cells #[.pointer (some m)] 128));obtain⟨wc,au⟩:=ex (wb.alloc (.cells #[.int .i64 (sg:Nat)] 3));obtain⟨w1,av⟩:=ex (wc.alloc (.cells #[.slice none 0 0] 159));have sa:wa.heap.size=w.heap.size+1:=by rw[ap,AN]
 have sb:wb.heap.size=w.heap.size+1+1:=by rw[ar,AN,sa]
 have sc:wc.heap.size=w.heap.size+1+1+1:=by rw[au,AN,sb]
 have s1:w1.heap.size=w.heap.size+1+1+1+1:=by rw[av,AN,sc]
 have ka:kz w wa:=by rw[ap];exact kq.alloc _
 have kb:kz wa wb:=by rw[ar];exact kq.alloc _
 have kc:kz wb wc:=by rw[au];exact kq.alloc _
 have kd:kz wc w1:=by rw[av];exact kq.alloc _
 have kw:kz w w1:=((ka.tO kb).tO kc).tO kd;have q5:Boxed w1 w.heap.size 46 (.pointer (some g)):=KA (by rw[ap];exact Boxed.new w _ _) ((kb.tO kc).tO kd) sq;have q6:Boxed w1 (w.heap.size+1) 128 (.pointer (some m)):=KA (by rw[ar,<- sa];exact Boxed.new wa _ _) (kc.tO kd) sq;have q7:Boxed w1 (w.heap.size+1+1) 3 (.int .i64 (sg:Nat)):=KA (by rw[au,<- sb];exact Boxed.new wb _ _) kd sq;have q8:Boxed w1 (w.heap.size+1+1+1) 159 (.slice none 0 0):=by rw[av,<- sc];exact Boxed.new wc _ _
 gi_wp2_with (
  rw[<- ap,<- ar,<- au,<- av];refine⟨trivial,?_⟩;refine(JA d2 w1 kw).mono ?_;rintro e f ⟨s,rfl,cd,e7,a0⟩;have x6:=(KA q6 a0 sq).cell)
 gi_wp2_with (refine⟨trivial,?_⟩;refine(VBR _ _ _ rfl).mono ?_;rintro e w' ⟨rfl,rfl⟩);obtain⟨l,aw⟩:=ex (f.alloc (.cells #[.pointer (some s)] 274));rw[<- aw];have k3:kz f l:=by rw[aw];exact kq.alloc _
 have s3:l.heap.size=f.heap.size+1:=by rw[aw,AN]
 have ax:kz w1 l:=a0.tO k3;have ay:kz w l:=kw.tO ax;have q9:Boxed l f.heap.size 274 (.pointer (some s)):=by rw[aw];exact Boxed.new f _ _
 have d6:YM l s d g sg ⟨sg,0,0,0,0⟩:=Blk.kO cd k3;have e8:=a0.size;have d7:=ag.lt;have d8:=hI.lt;have ea:=hg.lt;have eb:=cd.lt
 have h0:KOf w base m g B sg bi I w.heap.size (w.heap.size+1) (w.heap.size+1+1) (w.heap.size+1+1+1) l.heap.size [] l:=
  ⟨KA q5 ax sq,KA q6 ax sq,KA q7 ax sq,⟨_,KA q8 ax sq,Ab _ _ _ _⟩,AG _,hI.kO ay,hg.kO ay,ay,AG _⟩
 have ba:=KAS 2 (sb:=f.heap.size) (s:=s) (d:=d) (g:=g) (B:=B) (base:=base) (sg:=sg) (q:=⟨sg,0,0,0,0⟩) (p0:=p0) (b0:=b0) (F:=F) (D:=D) (Rs:=Rs) [164,159] (by decide) (by decide) (by decide) (by decide) (by decide) (by decide) (by decide) (by decide) (by decide)
  l q9 d6 (hg.kO ay) (ag.kO ay) d1 hn bj (JA d5) (JA d4) (fun H=>by have:=d7 _ H;omega) Z
 clear x6 q5 q6 q7 q8 ka kb kc kd ap ar au av aw sa sb sc
 refine Qz (n:=3) (gf:=325) (lb:=#[.pointer (some f.heap.size)]) rfl (enters_of func325 (by kernel_rfl) rfl)
  (fun xs V k o J a5 hl M N=>⟨a5.1,a5.2.choose,YF J a5.2.choose_spec M N⟩) ba (fun _=>rfl) (fun x C=>by simp at C;omega)
  (KOf w base m g B sg bi I w.heap.size (w.heap.size+1) (w.heap.size+1+1) (w.heap.size+1+1+1) l.heap.size) ?hI ?hIb (fun az x A B a1 v=>⟨a1.1,a1.2.kO v⟩) ?hFb h0
  (fun x bk V=>∃ b1,bk={ tmps:=#[.pointer (some d),.pointer (some g),.pointer (some m),.int .i64 (sg:Nat),undef,.pointer (some w.heap.size),.pointer (some ⟨w.heap.size+1,0,none⟩),.pointer (some ⟨w.heap.size+1+1,0,none⟩),.pointer (some ⟨w.heap.size+1+1+1,0,none⟩),.int .i64 0,.pointer (some s),.int .i64 x.1.off,.pointer (some (aq b1 0)),undef,undef,undef,.pointer (some d),.pointer (some g),.int .i64 (sg:Nat),.pointer (some s),.pointer (some s),.bool false,.bool false,.pointer (some m),.bool false,.bool false,.pointer (some s),.func (.func 325) #[] #[.pointer (some f.heap.size)],.int .i64 x.1.off,.agg #[.int .i64 x.2.1.mount,.int .i64 x.2.1.lsn,.int .i64 x.2.1.prev,x.2.2.1,x.2.2.2],undef,undef,undef,undef,undef,undef,undef,undef,undef,undef,undef,undef,undef,undef,undef,undef,undef,undef,undef,undef,undef,undef,undef,undef,undef,undef,undef,undef,undef,undef,undef,undef,undef,undef,undef,undef],defers:=[] }/\Blk V b1 280 #[.int .i64 x.2.1.mount,.int .i64 x.2.1.lsn,.int .i64 x.2.1.prev,x.2.2.1,x.2.2.2])
  ?hAb ?assign ?body ?done
 case hI=>
  intro xs A V L X v ce
  have b2:∀ b cs t,A.heap[b]? = some (.cells cs t)->t∉[375,49]->b∉L:=fun b cs t hb ht H=>by
   obtain⟨-,ec,ed,e1,e2⟩:=ce _ H;rw[hb] at e1;cases e1;exact ht e2
  have bm:∀ x∈L,w.heap.size<=x:=fun x C=>by
   obtain⟨r,-⟩:=ce x C;rcases r with r | r
   . simp at r;omega
   omega
  obtain⟨Y,u,a⟩:=X.out;refine⟨KA X.b5 v (b2 _ _ _ X.b5 (by decide)),KA X.b6 v (b2 _ _ _ X.b6 (by decide)),KA X.b7 v (b2 _ _ _ X.b7 (by decide)),⟨Y,KA u v (b2 _ _ _ u (by decide)),XB a v (fun b hb H=>?_)⟩,X.len,X.img.keep v (fun x C H=>by have:=d8 x C;have:=bm x H;omega),X.geom.keep v (fun H=>by have:=bm _ H;omega),X.keep.trans v (fun x C=>.inr (bm x C)),AA X.size v.size⟩;rcases a.2 with⟨rfl,_⟩ | ⟨b',cap,d9,rfl,_,bn,_⟩
  . simp[Value.ownBlock] at hb
  obtain rfl:b'=b:=by simpa [Value.ownBlock] using hb
  exact b2 _ _ _ bn (by decide) H
 case hIb=>
  intro xs V k o J O hl M N;obtain⟨Y,u,a⟩:=O.out;obtain⟨p1,p2,da,db,hi⟩:=O.img;exact⟨JC J O.b5 M N,JC J O.b6 M N,JC J O.b7 M N,⟨Y,JC J u M N,XM J a M N⟩,O.len,⟨p1,p2,da,db,hi.putObj J M N⟩,⟨YF J O.geom.blk M N,O.geom.pos,O.geom.few⟩,O.keep.putObj Z _,by rw[World.putObj_size];exact O.size⟩
 case hFb=>
  intro az x V k o J O hl M N;obtain⟨r,hi,ls,P,h3,h4⟩:=O;exact⟨r,XM J hi M N,ls,P,XM J h3 M N,fun q hq=>XM J (h4 q hq) M N⟩
 case hAb=>
  intro x bk V k o J O hl M N;obtain⟨b1,r,P⟩:=O;exact⟨b1,r,YF J P M N⟩
 case assign=>
  rintro dc az ⟨p,R,I',b3⟩ V ee Q a1 ah;have a6:RecHold V 0 I' b3 R:=a1.2;obtain⟨ef,ic,rfl,_⟩:=ZB a6.its;obtain⟨BA,bl,cf,rfl⟩:∃ BA bl bo,b3=.slice BA bl bo:=by obtain⟨ls,-,P,-⟩:=a6.bls;obtain⟨A,c,ag,_⟩:=ZB P;exact⟨A,_,c,ag⟩
  have dd:=JB ah;clear ah ba h0 a1 a6 Q;dsimp only[JAu]
  gi_wp2
  exact JA dd _ _ (kq.alloc _) ⟨_,rfl,Blk.new V _ _⟩
 case body=>
  rintro dc az ⟨p,R,I',b3⟩ bk V Q a1 ⟨b1,rfl,bb⟩;have a6:RecHold V 0 I' b3 R:=a1.2;obtain⟨bp,cg,b4,ai⟩:=JA d3 (p,R) (Bn a1.1);simp only at bp cg b4 ai;obtain⟨gi,ic,rfl,_⟩:=JE a6.its b4.some;obtain⟨BA,bl,cf,rfl⟩:∃ BA bl bo,b3=.slice BA bl bo:=by obtain⟨ls,-,P,-⟩:=a6.bls;obtain⟨A,c,ag,_⟩:=ZB P;exact⟨A,_,c,ag⟩
  dsimp only at bb ⊢;have de:=Q.b5.cell;have df:=Q.b7.cell;have bq:=AR (n:=0).2 (Yb V g B Q.geom sg bj);obtain⟨K,ah⟩:=ex (6+4*pgs B+24*sg);rw[<- ah] at bq;obtain⟨S,ch⟩:=ex (K+p.off);have eg:=(JD hg.pos hg.few).2;have eh:S<=400:=Z;have ei:IntKind.i64.wrap (((K:Nat):Int)+(p.off:Nat))=(S:Nat):=by rw[AK];omega
  have dg:=JB ah;have dh:=JB ch;have b5:=JB Q;have ci:=JB a6;have di:=JB a1;have dj:=JB b4;have dk:=JB ai;have dl:=JB bp;obtain⟨q,hq⟩:=ex R.items.length;have ej:q<=6:=by rw[hq];exact b4.few
  have bc:=JB hq;have a7:=(VD bb).2.2.2.1;rw[<- hq] at a7;clear ah ch Q a6 a1 b4 ai bp ba h0 cg
  gi_wp2_with (
   refine⟨trivial,?_⟩;refine bq.mono ?_;clear bq;rintro e dm ⟨rfl,ae⟩;have cj:=(VD (bb.kO ae)).2.2.2.1;rw[<- JA bc] at cj)
  have T:=JA b5;have ck:kz w dm:=T.keep.tO ae;obtain⟨aj,bd⟩:=ex (VO I B (az.map (fun x=>(x.1,x.2.1))));have br:=T.out;rw[<- bd] at br
  have cm:aj.length<=600/\∀ j,(YR I S (R.items.take j)).length<=6:=by
   have r:=T.len;have P:=(BL.1 (JA di).1).1;have h3:=JA cc;rw[ZAI] at P;refine⟨by rw[bd];omega,fun j=>?_⟩;have h4:=ZAj I S (R.items.take j);rw[BE] at h4;have:=JA bc;omega
  have cn:=JB bd;have co:=JB cm;clear bd cm T;have dn:=QB (JA ci).its ae
  gi_loopw [13,38] (fun dp i wr=>∃ j:Nat,j<=q/\i=.int .i64 j/\dp=.int .i64 (S+ZG (R.items.take j):Nat)/\KeepT [164,159] V wr/\kz w wr /\
   ∃ Y,Boxed wr (w.heap.size+1+1+1) 159 Y/\wr.ownsRow w.heap.size 164 2 Y (aj++YR I S (R.items.take j)).length ((aj++YR I S (R.items.take j)).flatMap blc)) (fun _ i _=>q-(intOf i).toNat)
  case atStart=>
   refine⟨0,AS _,rfl,by simp[ZG],KeepT.of0 ae,ck,?_⟩;obtain⟨Y,r,P⟩:=br;exact⟨Y,KA r ae sq,by simpa [YR] using QB P ae⟩
  clear br ae ck dn de df a7 cj bb;have dq:=(JA ci).its;obtain⟨j,hj,rfl,rfl,a2,af,Y,u,a⟩:=hrel;by_cases ek:j<q
  . have el:((j:Nat):Int)<(q:Nat):=Z
    have a8:j<R.items.length:=by have:=JA bc;omega
    have ak:=a2.own dq (by decide);have em:gi<wr.heap.size:=(KI YG (Rd.of_ownN ak) a8 (j:=0) Z).1;have dr:=(KI YG (Rd.of_ownN ak) a8 (j:=0) Z).2;have ds:=(KI YG (Rd.of_ownN ak) a8 (j:=1) Z).2;have dt:=(KI YG (Rd.of_ownN ak) a8 (j:=2) Z).2;have du:=(KI YG (Rd.of_ownN ak) a8 (j:=3) Z).2;have cp:=(JA dj).items _ (AQ a8);have al:=JA dk _ (AQ a8);have bs:R.items.take (j+1)=R.items.take j++[R.items[j]]:=AO a8;have am:=XAX I S (R.items.take j) R.items[j];have b6:=Qh (R.items.take j) R.items[j];rw[<- bs] at am b6;obtain⟨lj,bf⟩:=ex (ZG (R.items.take j));have en:lj<=6:=by have:=ZL (R.items.take j);rw[BE] at this;omega
    rw[<- bf] at am b6;obtain⟨y,hy⟩:=ex (S+lj);rw[<- bf,<- hy];have a9:=fun W=>AR (n:=0).2 (Jk cp W);generalize R.items[j]=it at *;obtain⟨ik,E,bg,iv⟩:=it;have dv:=ex (PItem.loaded ⟨ik,E,bg,iv⟩);obtain⟨lb,ai⟩:=dv;rw[<- ai] at a9 am b6 al;have aa:=fun W (v:kz w W) (hl:lb=true)=>AR (n:=0).2 (YAD (hI.kO v) E (y+1) (by rw[d0];exact al hl));simp only[itc,Bi,Bo,BV] at dr ds dt du a9 am;have T:=JA b5;have x6:=(a2.box T.b6 (by decide)).cell;have bt:=JB am;have bu:=JB b6;have eo:=JB bs;have ep:=JB bf;have an:=JB hy;have b7:=JB a2;have ab:=JB af;have eq:y<=420:=Z;clear am b6 bs bf hy cp al T ak ai a2 af;cases lb
    . gi_wp2_with (refine⟨trivial,?_⟩;refine(a9 _).mono ?_;clear a9;rintro e f ⟨rfl,a0⟩)
      go_roundw
      case rel=>
       have G:kz wr f:=((Keep.refl [] wr).alloc (.cells #[.int .i64 ik,.int .i64 E,.int .i64 bg,.int .i64 iv] 178)).tO a0;have e1:=JA bt;simp only[Aj,Bt,Ba] at e1;have e2:=JA bu;simp only[Aj,Bt,BV] at e2;exact⟨j+1,Z,by go_num,by rw[e2,<- JA an],(JA b7).trans (KeepT.of0 G),(JA ab).tO G,Y,KA u G sq,by rw[e1];exact QB a G⟩
      case measure=>simp[intOf];omega
    replace aa:=fun W v=>aa W v rfl;obtain⟨z,bv⟩:=ex (y+1);have er:IntKind.i64.wrap (((y:Nat):Int)+1)=(z:Nat):=by rw[AK];omega
    rw[<- bv] at aa;have b8:=JB bv;obtain⟨dw,bw⟩:=ex (JS I E z);rw[<- bw] at aa;have cq:=JB bw;have al:=Blk.new wr 178 #[.int .i64 ik,.int .i64 E,.int .i64 bg,.int .i64 iv];have cr:kz wr (wr.alloc (.cells #[.int .i64 ik,.int .i64 E,.int .i64 bg,.int .i64 iv] 178)):=kq.alloc _;clear bv bw;obtain⟨OA,oc,rfl,_⟩:=ZB a;cases dw
    . gi_wp2_with (first
       | (refine⟨trivial,?_⟩
          refine(a9 _).mono ?_;clear a9;rintro e f ⟨rfl,a0⟩;have G:=cr.tO a0;have i1:cl f (aq wr.heap.size 1) (ii E):=uq ((al.kO a0).cell 1)
          have dx:=(KA (show Boxed wr _ _ _ from (JA b7).box (JA b5).b6 (by decide)) G sq).cell)
       | (refine⟨trivial,?_⟩;refine(aa _ ((JA ab).tO G)).mono ?_;clear aa;rintro e l ⟨rfl,rfl⟩))
      go_roundw
      case rel=>
       have e1:=JA bt;have e3:=JA cq;rw[JA b8,JA an] at e3;simp only[B8,<- e3,Aj,Bt,Ba] at e1;have e2:=JA bu;simp only[B8] at e2;exact⟨j+1,Z,by go_num,by rw[e2,JA b8,JA an,Bf],(JA b7).trans (KeepT.of0 G),(JA ab).tO G,_,KA u G sq,by rw[e1];exact QB a G⟩
      case measure=>simp[intOf];omega
    obtain⟨ac,a3⟩:=ex (aj++YR I S (R.items.take j));obtain⟨h,a4⟩:=ex ac.length;have es:h<=606:=by have r:=JA co;have P:=r.2 j;rw[a4,a3,AE];omega
    rw[<- a3,<- a4] at a;rw[<- a3,<- a4] at u;have bx:=JB a3;have bz:=JB a4;clear a3 a4
    gi_wp2_with (first
     | (refine⟨trivial,?_⟩
        refine(a9 _).mono ?_;clear a9;rintro e f ⟨rfl,a0⟩;have G:=cr.tO a0;have i1:cl f (aq wr.heap.size 1) (ii E):=uq ((al.kO a0).cell 1);have dx:=(KA (show Boxed wr _ _ _ from (JA b7).box (JA b5).b6 (by decide)) G sq).cell;have et:=(KA u G sq).cell;have ad:kz wr (f.alloc (.cells #[.int .i64 E,.int .i64 (z:Nat)] 164)):=G.alloc _;have eu:=ad.size;have ev:=(JA ab).size
        have dy:Rd (f.alloc (.cells #[.int .i64 E,.int .i64 (z:Nat)] 164)) (some f.heap.size) (1*2) [.int .i64 E,.int .i64 (z:Nat)]:=VBe f _ _ _)
     | (refine⟨trivial,?_⟩;refine(aa _ ((JA ab).tO G)).mono ?_;clear aa;rintro e l ⟨rfl,rfl⟩)
     | (gi_at_builtin
        refine elemTold.wpIn_app rfl _ _ rfl w.heap.size (.slice OA h oc) h (ac.flatMap blc) rfl (QB a ad) ⟨f.heap.size,0,none⟩ 1 1 [.int .i64 E,.int .i64 (z:Nat)] rfl dy (by simp[Value.oneCell']) Z Z Z ?_;rintro ew l c2 c4 ey;obtain⟨ao,vc,rfl,_⟩:=ZB c2;have a7:=KA (KA u ad sq) c4 (fun H=>(KA u ad sq).not_row (by decide) (QB a ad) (DO (uq H)));have e3:=a7.cell;have f3:=a7.frozen))
    have c5:=a7.set (.slice ao (h+1) vc);have b9:Keep [w.heap.size+1+1+1] l (l.setCell ⟨w.heap.size+1+1+1,0,none⟩ (.slice ao (h+1) vc)):=kq.setCell (.inl sq) _;have c6:(l.setCell ⟨w.heap.size+1+1+1,0,none⟩ (.slice ao (h+1) vc)).ownsRow w.heap.size 164 2 (.slice ao (h+1) vc) (h+1) (ac.flatMap blc++[.int .i64 E,.int .i64 (z:Nat)]):=own_set c2 (fun H=>a7.not_row (by decide) c2 (DO (uq H))) (.slice ao (h+1) vc);go_roundw
    case rel=>
     have e1:=JA bt;have e3:=JA cq;rw[JA b8,JA an] at e3;simp only[B8,<- e3] at e1;have e2:=JA bu;simp only[B8] at e2;have dz:aj++YR I S (R.items.take (j+1))=ac++[(E,z)]:=by rw[e1,JA bx,JA b8,JA an,BG]
     have ct:=QB a ad
     have e0:KeepT [164,159] (f.alloc (.cells #[.int .i64 E,.int .i64 (z:Nat)] 164)) l:=KeepT.ofKeep c4 (fun x C=>by
      rcases ct.2 with⟨r,_⟩ | ⟨b',cap,d9,r,_,bn,_⟩
      . rw[r] at C;simp[Value.ownBlock] at C
      rw[r] at C;obtain rfl:b'=x:=by simpa [Value.ownBlock,eq_comm] using C
      exact⟨_,_,bn,by decide⟩)
     have e4:KeepT [164,159] l (l.setCell ⟨w.heap.size+1+1+1,0,none⟩ (.slice ao (h+1) vc)):=KeepT.ofKeep b9 (fun x C=>by simp at C;subst C;exact⟨_,_,a7,by decide⟩);refine⟨j+1,Z,by go_num,by rw[e2,JA b8,JA an,Bf],(((JA b7).trans (KeepT.of0 ad)).trans e0).trans e4,?_,_,c5,?_⟩
     . refine(((JA ab).tO ad).trans c4 (fun x C=>.inr ((own_mem ct (uq C)).1))).trans b9 iq
     rw[dz];have h9:(ac++[(E,z)]).length=h+1:=by rw[AE,<- JA bz];rfl
     rw[h9,Az];exact c6
    case measure=>simp[intOf];omega
  obtain rfl:j=q:=Z
  gi_wp2
  have T:=JA b5;have cu:R.items.take j=R.items:=AH (by have:=JA bc;omega);have e5:VC B p.seg+p.off=S:=by rw[JA dl,JA dh,JA dg];rfl
  have cv:VO I B ((az++[((p,R,.slice (some gi) R.items.length ic,.slice BA bl cf):PTold)]).map (fun x=>(x.1,x.2.1)))=aj++YR I S R.items:=by
   rw[BZ,CN,C4,KAO,<- JA cn];simp only[e5]
  rw[cu] at a;refine⟨a2,a2.box T.b5 (by decide),a2.box T.b6 (by decide),a2.box T.b7 (by decide),⟨Y,u,by rw[cv];exact a⟩,?_,hI.kO af,hg.kO af,af,AA T.size a2.size⟩;have r:=T.len;have P:=(JA co).2 j;rw[<- JA cn] at r;rw[cv,<- cu,AE,AE,Al];omega
 case done=>
  intro D' xs V ez a5 Q cw;obtain⟨c7,f0,cx⟩:=a5;obtain⟨Y,u,a⟩:=Q.out;have bh:=Q.len;rw[c7] at a bh;have cy:xs.length=Rs.length:=by have:=congrArg List.length c7;rw[BR,ZAI] at this;exact this
  rw[cy] at bh;have f1:=JA cc;obtain⟨ac,a3⟩:=ex (VO I B (placed p0 Rs));rw[<- a3] at a bh;obtain⟨h,a4⟩:=ex ac.length;rw[<- a4] at a bh;have bz:=JB a4;have bx:=JB a3;have ab:=JB Q.keep;have f2:=JB Q.size;have cz:=AR (n:=2).2 (YBQ cx);obtain⟨OA,oc,rfl,_⟩:=ZB a;have f4:=u.cell;have f8:=u.frozen;have l8:=u.lt;clear a4 a3 ba h0 cx Q c7 cy;gi_wp2_with (refine⟨trivial,?_⟩;refine cz.mono ?_;clear cz;rintro e w' ⟨rfl,rfl⟩);have c5:=u.set (.slice OA h oc);have b9:Keep [w.heap.size+1+1+1] V (V.setCell ⟨w.heap.size+1+1+1,0,none⟩ (.slice OA h oc)):=kq.setCell (.inl sq) _;have c6:(V.setCell ⟨w.heap.size+1+1+1,0,none⟩ (.slice OA h oc)).ownsRow w.heap.size 164 2 (.slice OA h oc) h (ac.flatMap blc):=own_set a (fun H=>u.not_row (by decide) a (DO (uq H))) (.slice OA h oc);have c8:(V.setCell ⟨w.heap.size+1+1+1,0,none⟩ (.slice OA h oc)).heap[D']? = some (.deferred (some [])):=(b9.block D' (AI.1 cw).1 (by simp;omega)).trans cw;have e6:=JC (.deferred none) c5 c8 rfl;have e9:=e6.cell;have af:=((JA ab).trans b9 iq).putObj (g:=D') Z (.deferred none);refine⟨sq,.inl ⟨_,_,rfl,run_takeDeferred c8,?_⟩⟩;refine⟨.tuple #[.slice OA h oc,.int .i64 0],?_,?_⟩
  . simp[results,results90,go_sem,e9]
  rw[<- JA bx,<- JA bz];exact⟨_,rfl,ownsRow_putObj c6 (.deferred none) c8 rfl,af⟩