/- Lemmas of the proof, with their conditions. -/
import Derived.Test.YtfedaknhecbehaaGreatL48
import Derived.Test.YtfedaknhecbehaaGreatL27
namespace Go.Proofs.YtfedaknhecbehaaGreat
open Tryz Go.RowKit
variable {b:Nat}
set_option linter.all false
set_option maxHeartbeats 1000000
set_option maxRecDepth 20000
def mv (P:Nat):List Value:=List.replicate P (.int .i64 (-1))
structure ImgIs (w:World) (base m:Nat) (V1 V2 V3 V4:Value) (Fi:List Nat) (B:Nat):Prop where
 blk:Blk w m 190 #[V1,V2,V3,V4]
 own1:w.ownsRow base 3 1 V1 B (zv B)
 own2:w.ownsRow base 3 1 V2 B (mv B)
 len3:∃ A c,V3=.slice A (pgs B) c
 len4:∃ A c,V4=.slice A (pgs B) c
 base:base<=m
 foot:Fi=m :: (V1.ownBlock.toList++V2.ownBlock.toList)
def ImgAt (w:World) (base m:Nat) (Fi:List Nat) (B:Nat):Prop:=∃ V1 V2 V3 V4,ImgIs w base m V1 V2 V3 V4 Fi B
namespace ImgAt
variable {w w':World} {base m:Nat} {Fi l:List Nat} {B:Nat}
theorem keep (h:ImgAt w base m Fi B) (b:Keep l w w') (c:Apart Fi l):ImgAt w' base m Fi B:=by
 obtain⟨e,f,i,j,h⟩:=h;have a:=h.foot;exact⟨e,f,i,j,h.blk.keep b (c m (by simp[a])),XB h.own1 b (fun g d=>c g (by simp[a,d])),XB h.own2 b (fun g d=>c g (by simp[a,d])),h.len3,h.len4,h.base,a⟩
theorem lt (h:ImgAt w base m Fi B):∀ x∈Fi,x<w.heap.size:=by
 obtain⟨b,c,d,e,h⟩:=h;rw[h.foot];intro x a;simp only[AM,AD] at a;rcases a with rfl | a | a
 . exact h.blk.lt
 . exact(own_mem h.own1 a).2
 exact(own_mem h.own2 a).2
theorem ge (h:ImgAt w base m Fi B):∀ x∈Fi,base<=x:=by
 obtain⟨b,c,d,e,h⟩:=h;rw[h.foot];intro x a;simp only[AM,AD] at a;rcases a with rfl | a | a
 . exact h.base
 . exact(own_mem h.own1 a).1
 exact(own_mem h.own2 a).1
end ImgAt
theorem KBC {w:World} {c lo:Nat} {bs:List UInt8} (a:Rd w (some b) 128 (bys bs)) (d:lo+64<=128):Rd w (some (aq b lo)) 64 (bys ((bs.drop lo).take 64)):=by
 have h:=(a.cut (k:=lo) (cap:=200) Z Z).take (k:=64) Z;rw[AL Z,Jn,Zb] at h;simpa [Be] using h
theorem QBs {w:World} {base d:Nat} {F:List Nat} {R:PRD} (h:RDkAt w base d F R) (M:R.asked<=1000) (a:Nat) (N:a+2<=R.n) (b c:Nat) (bs:List UInt8) (y:Rd w (some b) 128 (bys bs)) (O:128<=c) (z:b∉F) (P:base<=w.heap.size) :
 Calls prog 201 #[pq d,a,.slice (some b) 128 c] w fun e w'=>e=.returned zz/\∃ F' f,RDkAt w' base d F' f/\f.n=R.n/\f.asked=R.asked+2/\f.lv=R.lv/\Keep F w w'/\Grow w F F':=by
 have Q:R.n<=4096:=by obtain⟨S,H,U,L,h⟩:=h;exact h.few
 have T:b<w.heap.size:=by obtain⟨_,_,e,h,_⟩:=y.2 Z;cases e;exact h
 go_enter func201,ntmps201;go_wp2_with fail;go_loopw [7,8] (fun i e wr=>∃ (k:Nat) (F':List Nat) (f:PRD),k<=2/\i=.int .i64 k/\RDkAt wr base d F' f/\f.n=R.n/\f.asked=R.asked+k/\f.lv=R.lv/\Keep F w wr/\Grow w F F') (fun i _ _=>2-(intOf i).toNat)
 case atStart=>exact⟨0,F,R,Z,rfl,h,rfl,rfl,rfl,kq,Grow.refl _ _⟩
 obtain⟨k,F',f,V,rfl,n,C,D,o,m,j⟩:=hrel;by_cases W:k<2
 . have A:b∉F':=fun E=>(j b E).elim z Z
   have X:((k:Nat):Int)<2:=Z;have B:=y.keepIf m (by rintro _ ⟨⟩;exact z);have Y:=m.size;rcases(by omega:k=0\/k=1) with rfl | rfl
   . have l:=KAP n Z a Z c _ (KBC (c:=c) (lo:=0) B Z) Z (by rintro _ ⟨⟩;exact A) Z
     have G:(64:Int)<=(c:Nat):=Z;go_wp2_with (refine l.mono ?_;clear l;rintro I w1 ⟨rfl,p,r,s,J,K,t,u,v⟩);go_roundw;case rel=>exact⟨1,p,r,Z,rfl,s,Z,Z,by rw[t,o],m.trans u (fun x g=>j x g),fun x g=>(v x g).elim (j x) (fun h=>.inr Z)⟩
     case measure=>simp[intOf]
   have l:=KAP n Z (a+1) Z (c-64) _ (KBC (c:=c) (lo:=64) B Z) Z (by rintro _ ⟨⟩;exact A) Z;rw[BO] at l;have a0:(128:Int)<=(c:Nat):=Z;have G:¬ c=64:=Z;go_wp2_with (refine l.mono ?_;clear l;rintro I w1 ⟨rfl,p,r,s,J,K,t,u,v⟩);go_roundw;case rel=>exact⟨2,p,r,Z,rfl,s,Z,Z,by rw[t,o],m.trans u (fun x g=>j x g),fun x g=>(v x g).elim (j x) (fun h=>.inr Z)⟩
   case measure=>simp[intOf]
 obtain rfl:k=2:=Z
 go_wp2
 go_ret;exact⟨rfl,F',f,n,C,D,o,m,j⟩
def Laid (w0 w:World) (base d:Nat) (F:List Nat) (n j:Nat) (N:List Nat):Prop:=∃ F' R',RDkAt w base d F' R'/\R'.n=n/\R'.asked<=j/\R'.lv.length<=j/\Keep F w0 w/\Grow w0 F F'/\∀ b∈N,b∉F'/\b<w.heap.size
namespace Laid
variable {w0 w w':World} {base d n j:Nat} {F N:List Nat}
theorem kO (h:Laid w0 w base d F n j N) (a:kz w w'):Laid w0 w' base d F n j N:=by
 obtain⟨F',f,g,i,k,l,m,o,c⟩:=h;have:=a.size;exact⟨F',f,g.kO a,i,k,l,m.tO a,o,fun b e=>⟨(c b e).1,by have:=(c b e).2;omega⟩⟩
theorem mono (h:Laid w0 w base d F n j N) {i:Nat} (hi:j<=i):Laid w0 w base d F n i N:=by
 obtain⟨F',a,b,c,g,k,e,f⟩:=h;exact⟨F',a,b,c,Z,Z,e,f⟩
theorem sub (h:Laid w0 w base d F n j N) {M:List Nat} (a:∀ b∈M,b∈N):Laid w0 w base d F n j M:=by
 obtain⟨F',c,e,f,g,i,k,l,m⟩:=h;exact⟨F',c,e,f,g,i,k,l,fun b o=>m b (a b o)⟩
theorem add (h:Laid w0 w base d F n j N) (a:kz w w') (s:w.heap.size<=b) (g:b<w'.heap.size):Laid w0 w' base d F n j (b :: N):=by
 have t:=h.kO a;obtain⟨F',i,e,k,l,m,o,p,f⟩:=h;have u:=a.size;refine⟨F',i,e.kO a,k,l,m,o.tO a,p,fun x c=>?_⟩;rcases AM.1 c with rfl | c
 . exact⟨fun r=>by have:=e.lt _ r;omega,g⟩
 exact⟨(f x c).1,by have:=(f x c).2;omega⟩
theorem turn (h:Laid w0 w base d F n j N) {l:List Nat} (a:Keep l w w') (f:∀ x∈l,x∈N/\w0.heap.size<=x):Laid w0 w' base d F n j N:=by
 obtain⟨F',i,k,m,o,p,r,s,c⟩:=h;have:=a.size;exact⟨F',i,k.keep a (fun x e t=>(c x (f x t).1).1 e),m,o,p,r.trans a (fun x e=>.inr (f x e).2),s,fun b g=>⟨(c b g).1,by have:=(c b g).2;omega⟩⟩
theorem rows (h:Laid w0 w base d F n j N) (B:j<=500) (a:base<=w0.heap.size) (k:Nat) (C:k+2<=n) (b c:Nat) (bs:List UInt8) (o:Rd w (some (aq b 0)) 128 (bys bs)) (p:128<=c) (r:b∈N) :
 Calls prog 201 #[pq d,k,.slice (some (aq b 0)) 128 c] w fun e w'=>e=.returned zz/\Laid w0 w' base d F n (j+2) N/\KeepN N w w':=by
 obtain⟨F',D,s,E,G,H,i,l,f⟩:=h;have I:=i.size;refine(QBs s Z k Z b c bs o p (f b r).1 Z).mono ?_;rintro e w' ⟨rfl,t,u,v,J,K,y,g,m⟩;have L:=g.size;have M:=congrArg List.length y;exact⟨rfl,⟨t,u,v,Z,Z,Z,i.trans g l,fun x z=>(m x z).elim (l x) (fun h=>.inr Z),fun b a=>⟨fun A=>(m b A).elim (f b a).1 (by have:=(f b a).2;omega),by have:=(f b a).2;omega⟩⟩,F',g,fun b a=>(f b a).1⟩
end Laid
theorem RDkNew.lt {w:World} {base d n:Nat} {F:List Nat} (h:RDkNew w base d F n):∀ x∈F,x<w.heap.size:=by
 obtain⟨S,U,R,a,_⟩:=h;exact a.lt
theorem RDkNew.laid {w w0:World} {base d n:Nat} {F:List Nat} (h:RDkNew w base d F n) (e:kz w w0) {N:List Nat} (a:∀ b∈N,w.heap.size<=b/\b<w0.heap.size):Laid w0 w0 base d F n 0 N:=by
 obtain⟨R,f,g,i,l⟩:=(h.kO e).at_;have j:=h.lt;exact⟨F,R,f,g,Z,by rw[i];simp,kq,Grow.refl _ _,fun b c=>⟨fun k=>by have:=j b k;have:=(a b c).1;omega,(a b c).2⟩⟩