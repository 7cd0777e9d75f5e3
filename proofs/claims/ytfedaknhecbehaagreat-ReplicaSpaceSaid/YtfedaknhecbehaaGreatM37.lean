/- Lemmas of the proof, with their conditions. -/
import Derived.Test.YtfedaknhecbehaaGreatM36
import Derived.Test.YtfedaknhecbehaaGreatM26
namespace Go.Proofs.YtfedaknhecbehaaGreat
open Tryz Go.RowKit
variable {g c lo b:Nat} {t:TypeId} {G:Prop} {W:World}
set_option linter.all false
set_option maxHeartbeats 2000000
set_option maxRecDepth 20000
def mv (P:Nat):List Value:=List.replicate P (.int .i64 (-1))
structure ImgIs (w:World) (base m:Nat) (V1 V2 V3 V4:Value) (Fi:List Nat) (B:Nat):Prop where
 blk:Blk w m 190 #[V1,V2,V3,V4]
 own1:w.ownsRow base 3 1 V1 B (zv B)
 own2:w.ownsRow base 3 1 V2 B (mv B)
 len3:∃ A c,V3=.slice A (pgs B) c
 len4:∃ A c,V4=.slice A (pgs B) c
 base:base<=m
 foot:Fi=m :: (V1.ownBlock.toList++V2.ownBlock.toList)
def ImgAt (w:World) (base m:Nat) (Fi:List Nat) (B:Nat):Prop:=∃ V1 V2 V3 V4,ImgIs w base m V1 V2 V3 V4 Fi B
namespace ImgAt
variable {w w':World} {base m:Nat} {Fi l:List Nat} {B:Nat}
theorem keep (h:ImgAt w base m Fi B) (b:Keep l w w') (c:Apart Fi l):ImgAt w' base m Fi B:=by
 obtain⟨e,f,i,j,h⟩:=h;have a:=h.foot;exact⟨e,f,i,j,h.blk.keep b (c m (by simp[a])),KA h.own1 b (fun g d=>c g (by simp[a,d])),KA h.own2 b (fun g d=>c g (by simp[a,d])),h.len3,h.len4,h.base,a⟩
theorem lt (h:ImgAt w base m Fi B):∀ x∈Fi,x<w.heap.size:=by
 obtain⟨b,c,d,e,h⟩:=h;rw[h.foot];intro x a;simp only[AL,AD] at a;rcases a with rfl | a | a
 . exact h.blk.lt
 . exact(own_mem h.own1 a).2
 exact(own_mem h.own2 a).2
theorem ge (h:ImgAt w base m Fi B):∀ x∈Fi,base<=x:=by
 obtain⟨b,c,d,e,h⟩:=h;rw[h.foot];intro x a;simp only[AL,AD] at a;rcases a with rfl | a | a
 . exact h.base
 . exact(own_mem h.own1 a).1
 exact(own_mem h.own2 a).1
end ImgAt
theorem KAC {w:World} {a b c d:Value} (h:Blk w g t #[a,b,c,d]) :
 cl w g a/\cl w (aq g 1) b/\cl w (aq g 2) c/\cl w (aq g 3) d:=
 ⟨uq (h.cell 0),uq (h.cell 1),uq (h.cell 2),uq (h.cell 3)⟩
theorem YAO (B:Nat) (h1:1<=B) (h2:B<=64) (w:World):Calls prog 188 #[B] w fun e w'=>∃ m Fi,e=.returned (pq m)/\ImgAt w' w.heap.size m Fi B/\kz w w':=by
 have O:=fun W=>JD (B:Nat) 1 64 true (by simp;omega) W;have y:∀ W,cq 299 #[B,ii 15] W (pgs B:Nat):=fun W=>QAo B 15 (pgs B) Z Z (by unfold pgs;omega) W;have a6:=(ZD h1 h2).2;obtain⟨P,A⟩:=ex (pgs B);rw[<- A] at y a6;have a7:=ZB A;clear A;go_enter func188,ntmps188
 go_wp2_with (first
  | (go_at_call 147;refine(O _).mono ?_;clear O;rintro e w' ⟨rfl,rfl⟩)
  | (at_make;refine elemIntsN.wp_make rfl _ _ rfl .i64 .i64 B rfl rfl Z Z ?_;intro w1 g1 a8 Q R S;subst a8))
 have T:w1.ownsRow w.heap.size 3 1 (.slice (some w.heap.size) B B) B (zv B):=JN (e:=3) (s:=1) (z:=.int .i64 0) R Z Z Z (by simp[zv]) rfl;have p:=Blk.new w1 190 #[.slice (some w.heap.size) B B,zn,zn,zn];have U:kz w (w1.alloc (.cells #[.slice (some w.heap.size) B B,zn,zn,zn] 190)):=S.alloc _;have X:=XE T (.cells #[.slice (some w.heap.size) B B,zn,zn,zn] 190);generalize Y:w1.alloc (.cells #[.slice (some w.heap.size) B B,zn,zn,zn] 190)=wA at *;rw[Q] at p;clear T S Q R;obtain⟨m,a⟩:=ex (w.heap.size+1);rw[<- a] at p;go_wp2_with fail
 try rw[Y]
 try rw[<- a]
 clear Y;have q:=ZB a;clear a
 go_loopw [4] (fun i wr=>∃ (k:Nat) (V:Value),k<=B/\i=.int .i64 (k:Nat)/\Blk wr m 190 #[.slice (some w.heap.size) B B,V,zn,zn] /\
  wr.ownsRow w.heap.size 3 1 V k (mv k)/\wr.ownsRow w.heap.size 3 1 (.slice (some w.heap.size) B B) B (zv B)/\w.heap.size∉V.ownBlock.toList/\kz w wr) (fun i _=>B-(intOf i).toNat)
 case atStart=>exact⟨0,.slice none 0 0,AP _,rfl,p,AZ _ _ _ _,X,by simp[Value.ownBlock],U⟩
 clear p X U;obtain⟨k,V,hk,rfl,f,l,C,a0,r⟩:=hrel;obtain⟨a9,aa,c2,ab⟩:=KAC f;by_cases aj:k<B
 . have ak:((k:Nat):Int)<(B:Nat):=Z
   have a1:m∉V.ownBlock.toList:=fun a=>own_blk_ne l f (by decide) (uq a);have c:kz wr (wr.alloc (.cells #[ii (-1)] 3)):=kq.alloc _;go_wp2_with (at_builtin;refine elemInts.wp_app rfl (.tmp 22) (.tmp 23) rq w.heap.size V k (mv k) rq (QB l c) (some (aq wr.heap.size 0)) 1 1 [.int .i64 (-1)] rq (XS wr (.int .i64 (-1)) 3) (by simp[Value.oneCell']) Z Z (AB r.size c.size) ?_;intro j g D E F _;have G:=(f.kO c).keep E a1;have f1:=G.frozen 1;obtain⟨j0,j1,j2,j3⟩:=KAC G;obtain⟨ac,sc,rfl,_⟩:=XB D);obtain⟨j,ad⟩:=ex (Value.slice ac (k+1) sc);rw[<- ad] at D F ⊢;have H:=G.set 1 j;have h:Keep [m] g (g.setCell (aq m 1) j):=kq.sc m 1;have al:=r.size;have am:=f.lt;have an:=ZA q
   have ae:m∉j.ownBlock.toList:=fun a=>by
    rcases F with e | e
    . rw[e] at a;exact a1 a
    rw[e] at a;simp at a;omega
   have af:w.heap.size∉j.ownBlock.toList:=fun a=>by
    rcases F with e | e
    . rw[e] at a;exact a0 a
    rw[e] at a;simp at a;omega
   have I:=KA (KA (QB C c) E (fun x b a=>by simp[Value.ownBlock] at b;subst b;exact a0 a)) h (fun x b a=>by simp at a;subst a;simp[Value.ownBlock] at b;omega);have t:=KA D h (fun x b a=>by simp at a;subst a;exact ae (uq b));have ag:kz w (g.setCell (aq m 1) j):=((r.tO c).trans E (fun x b=>.inr (own_mem l b).1)).trans h iq;have ah:mv k++[.int .i64 (-1)]=mv (k+1):=by simp[mv,List.replicate_succ']
   rw[ah] at t;go_roundw;case rel=>exact⟨k+1,_,Z,by go_num,uq H,t,I,af,ag⟩
   case measure=>simp[intOf];omega
 obtain rfl:k=B:=Z
 go_wp2_with (refine(y _).mono ?_;clear y;rintro e w' ⟨rfl,rfl⟩);refine ZT (fun _=>True) 5 [[0,1,3,4],[2]] trivial ?_;simp only[PI];iterate 4 refine wG ?_
 refine JB rq fun K J=>?_;refine elemBool.wp1_make _ _ rfl .i64 .i64 P rfl rfl Z Z ?_;intro n L M N a2 u;obtain rfl:L=wr.heap.size:=M;clear N;have c:kz wr n:=kq.drew.tO u;have d:=f.kO c;have f2:=d.frozen 2;obtain⟨e0,e1,e2,e3⟩:=KAC d;refine J _ _ (trivial) ?_
 try simp only[Act.put,PU]
 refine VB ?_;have o:=d.set 2 (.slice (some (aq wr.heap.size 0)) P P);have v:Keep [m] n (n.setCell (aq m 2) (.slice (some (aq wr.heap.size 0)) P P)):=kq.sc m 2;go_wp2_with fail;have ai:kz w (n.setCell (aq m 2) (.slice (some (aq wr.heap.size 0)) P P)):=(r.tO c).trans v (fun x b=>.inr (by simp at b;have:=ZA q;omega));have a3:=KA (QB l c) v (fun x b a=>by simp at a;subst a;exact own_blk_ne l f (by decide) b);have a4:=KA (QB C c) v (fun x b a=>by simp at a;subst a;exact own_blk_ne C f (by decide) b);generalize n.setCell (aq m 2) (.slice (some (aq wr.heap.size 0)) P P)=w3 at *;generalize wr.heap.size=q3 at *;replace o:Blk w3 m 190 #[.slice (some w.heap.size) k k,V,.slice (some q3) P P,zn]:=uq o
 clear v d f2 e0 e1 e2 e3 a2 u c a9 aa c2 ab;refine ZT (fun _=>True) 5 [[0,1,3,4],[2]] trivial ?_;simp only[PI];iterate 4 refine wG ?_
 refine JB rq fun K J=>?_;refine elemBool.wp1_make _ _ rfl .i64 .i64 P rfl rfl Z Z ?_;intro g L M N a2 u;obtain rfl:L=w3.heap.size:=M;clear N;have c:kz w3 g:=kq.drew.tO u;have d:=o.kO c;have f2:=d.frozen 3;obtain⟨e0,e1,e2,e3⟩:=KAC d;refine J _ _ (trivial) ?_
 try simp only[Act.put,PU]
 refine VB ?_;have H:=d.set 3 (.slice (some w3.heap.size) P P);have h:Keep [m] g (g.setCell (aq m 3) (.slice (some w3.heap.size) P P)):=kq.sc m 3;go_wp2_with fail;go_ret;have t:=KA (QB a3 c) h (fun x b a=>by simp at a;subst a;exact own_blk_ne a3 o (by decide) b);have I:=KA (QB a4 c) h (fun x b a=>by simp at a;subst a;exact own_blk_ne a4 o (by decide) b);have a5:=ZA a7;refine⟨m,_,rfl,⟨_,_,_,_,⟨uq H,I,t,⟨_,_,by rw[a5]⟩,⟨_,_,by rw[a5]⟩,by have:=ZA q;omega,rfl⟩⟩,(ai.tO c).trans h (fun x b=>.inr (by simp at b;have:=ZA q;omega))⟩
def vOf (o:Bool):Int:=if o then -1 else 0
theorem YBl {w:World} {base m:Nat} {Fi:List Nat} {B:Nat} (l:1<=B) (h:ImgAt w base m Fi B) (o:Bool):Calls prog 370 #[pq m,.bool o] w fun e w'=>∃ g c k,e=.returned (.tuple #[.slice (some (aq g 0)) B c,ii k])/\w.ownsRow base 3 1 (.slice (some (aq g 0)) B c) B (List.replicate B (.int .i64 (vOf o)))/\B<=c/\w=w':=by
 obtain⟨n,p,q,r,h⟩:=h;obtain⟨s,t,u,v⟩:=KAC h.blk;obtain⟨a,b,rfl,d⟩:=JI h.own1 Z;obtain⟨f,i,rfl,j⟩:=JI h.own2 Z;cases o
 . go_enter func370,ntmps370
   go_wp2
   go_ret2;exact⟨a,b,0,rfl,h.own1,d,rfl⟩
 go_enter func370,ntmps370
 go_wp2
 go_ret2;exact⟨f,i,1,rfl,h.own2,j,rfl⟩
theorem VBf {w:World} {base B hi:Nat} {v:Value} (a:w.ownsRow base 3 1 (.slice (some g) B c) B (List.replicate B v)) (b:B<=c) (d:hi<=B) (e:lo<hi):Rd (w.alloc (.cells #[] 3)) (some (aq g lo)) (hi-lo) (List.replicate (hi-lo) v):=by
 have h:=(((Rd.of_own a).cut (k:=lo) Z b).take (k:=hi-lo) Z).keep (kq.alloc (.cells #[] 3));rw[AF Z,CV,Cw,CO Z] at h;simpa [Bw] using h
theorem ZBk {w:World} {base m:Nat} {Fi:List Nat} {B:Nat} (q:1<=B) (G:B<=64) (h:ImgAt w base m Fi B) (o:Bool) (p:Nat) (r:p<pgs B):Calls prog 295 #[pq m,.bool o,p] w fun e w'=>∃ A n c,e=.returned (.slice A n c)/\n<=15/\Rd w' A n (List.replicate n (.int .i64 (vOf o)))/\kz w w':=by
 have d:=YBl q h o;obtain⟨H,I,J,K,h⟩:=h;obtain⟨L,M,f,N⟩:=KAC h.blk;obtain⟨O,Q,i⟩:=h.len3;rw[i] at f;have s:15*pgs B<=B+14/\pgs B<=5:=by unfold pgs;omega
 obtain⟨P,a⟩:=ex (pgs B);rw[<- a] at r s f;have j:=fun W=>JD (p:Nat) 0 ((P:Nat)-1) true (by simp;omega) W;have R:=ZB a;clear a h i;obtain⟨hi,t⟩:∃ hi:Nat,min (((p:Nat)+1)*15:Int) (B:Nat)=(hi:Nat)/\hi<=B/\p*15<hi/\hi<=p*15+15:=⟨min ((p+1)*15) B,Z,Z,Z,Z⟩;obtain⟨S,u,v,T⟩:=t;go_enter func295,ntmps295
 go_wp2_with (first
  | (go_at_call 370;refine d.mono ?_;clear d;rintro e w' ⟨g,c,k,rfl,y,z,rfl⟩)
  | (go_at_call 147;refine(j _).mono ?_;clear j;rintro e w' ⟨rfl,rfl⟩)
  | (at_builtin;refine elemInts.wp_app rfl (.tmp 25) (.tmp 35) rq w.heap.size (.slice (some w.heap.size) 0 0) 0 [] rq (QR (Blk.new w 3 #[]) (AG _) Z sq sq) (some (aq g (p*15))) (hi-p*15) (c-p*15) (List.replicate (hi-p*15) (.int .i64 (vOf o))) rq (VBf y z u v) (by simp[Value.oneCell']) Z Z sq ?_;intro U V b C X _;rw[Am] at b;obtain⟨A',D,rfl,_⟩:=XB b))
 go_ret;have E:kz w (w.alloc (.cells #[] 3)):=kq.alloc _;have l:=Rd.of_own b;rw[BB] at l;exact⟨A',_,D,rfl,Z,l,E.trans C (fun x F=>.inr (by simp[Value.ownBlock] at F;omega))⟩
theorem KAj {A:Option Addr} {n:Nat} (c:Nat) (v:Int) (E:v=0\/v = -1) (F:n<=15) {w:World} (h:Rd w A n (List.replicate n (.int .i64 v))):Calls prog 294 #[.slice A n c] w fun e w'=>∃ u,e=.returned (.tuple #[u,zz])/\kz w w'/\QAb w 64 u w':=by
 have j:=ZBp 64 Z w;have r:=fun W=>JD v (-1) 4095 true (by simp;omega) W;obtain⟨z,d⟩:∃ z:Nat,v % 4294967296=(z:Nat)/\z<4294967296:=⟨(v % 4294967296).toNat,Z,Z⟩;have l:=fun W=>JAU v 4294967296 W Z Z;simp only[d.1] at l;have s:=d.2;clear d;have G:((n:Nat):Int)<=15:=Z
 go_enter func294,ntmps294;go_wp2_with (refine j.mono ?_;clear j;rintro e w1 ⟨g,u,rfl,a⟩);go_loopw [5] (fun i wr=>∃ k:Nat,k<=n/\i=.int .i64 k/\RowN w wr g u 64 (4*k)) (fun i _=>n-(intOf i).toNat)
 case atStart=>exact⟨0,AP _,rfl,a⟩
 clear a;obtain⟨k,H,rfl,a⟩:=hrel;by_cases m:k<n
 . obtain⟨b,o,y,rfl,f,I,J⟩:=(h.keep a.1).at_ m
   simp only[Au] at f;rw[AJ m] at f;cases f;have p:=XBh a 4 z Z (uq s) Z
   go_wp2_with (first
    | (go_at_call 147;refine(r _).mono ?_;rintro e w' ⟨rfl,rfl⟩)
    | (go_at_call 104;refine(l _).mono ?_;rintro e w' ⟨rfl,rfl⟩)
    | (go_at_call 274;refine p.mono ?_;clear p;rintro e t ⟨rfl,B⟩))
   go_round;case rel=>exact⟨k+1,Z,by go_num,B⟩
   case measure=>simp[intOf];omega
 obtain rfl:k=n:=Z
 have q:=JAo a;go_wp2_with (refine q.mono ?_;clear q;rintro e t ⟨rfl,C,D⟩);go_ret2;exact⟨u,rfl,C,D⟩
theorem YBh {P X:World->Nat->Nat->Prop} {G:Prop} (f:(∀ a b c,P a b c->X a b c)->G) (r:∀ a b c,P a b c->X a b c):G:=f r
theorem XAT {w:World} (h:Blk w g 166 (madeCells (Value.agg #[zz,zz]).cells (8*2))):Blk w g 166 (Array.replicate 16 (.int .i64 0)):=by
 rw[show (Value.agg #[zz,zz]).cells=Array.replicate 2 (.int .i64 0) from rfl,XT _ _ _ Z] at h;exact h
theorem VAi (w:World) (B d t:Nat):Calls prog 189 #[pq d,Je B,pq t,pos0] w fun e w'=>∃ x,e=.returned (pq x)/\kz w w':=by
 have f:=fun W=>JBD W B;have a:=Blk.new w 28 #[ii B,ii 8,ii 24];have b:=Blk.new (w.alloc (.cells #[ii B,ii 8,ii 24] 28)) 49 #[zz,zz,ii 1,zz,ii 1];rw[show (w.alloc (.cells #[ii B,ii 8,ii 24] 28)).heap.size=w.heap.size+1 from sq] at b;replace a:=a.kO (kq.alloc (.cells #[zz,zz,ii 1,zz,ii 1] 49));have n:kz w ((w.alloc (.cells #[ii B,ii 8,ii 24] 28)).alloc (.cells #[zz,zz,ii 1,zz,ii 1] 49)):=(kq.alloc _).alloc _;obtain⟨g,h,i⟩:=XD a;obtain⟨p0,j,k,l,m⟩:=cells5y b;unfold Je pos0 at *;go_enter func189,ntmps189;go_wp2_with (refine(f _).mono ?_;clear f;rintro e w1 ⟨rfl,c⟩;replace a:=a.kO c;replace b:=b.kO c;clear g h i p0 j k l m;obtain⟨g,h,i⟩:=XD a;obtain⟨p0,j,k,l,m⟩:=cells5y b);go_ret;exact⟨_,rfl,(n.tO c).alloc _⟩
theorem KBC {w:World} {G:Nat} (B:Nat) (E:SegsR w G):Calls prog 187 #[Je B,.slice (some G) 8 8] w fun e w'=>∃ x,e=.returned (pq x)/\kz w w':=by
 have F:∀ W,cq 147 #[zz,zz,ii 2147483647] W (.bool true):=fun W=>JD 0 0 2147483647 true sq W;have j:=Blk.new w 28 #[ii B,ii 8,ii 24];have n:kz w (w.alloc (.cells #[ii B,ii 8,ii 24] 28)):=kq.alloc _;obtain⟨H,I,J⟩:=XD j;unfold Je;go_enter func187,ntmps187;go_wp2_with fail;refine ZR (fun w'=>cl w' w.heap.size B/\cl w' (aq w.heap.size 1) (ii 8)/\cl w' (aq w.heap.size 2) (ii 24)) 7 (.held 0 (.held 1 (.held 2 (.held 4 (.held 5 (.two 3 (.loud 6 .nil) 6 (.loud 3 .nil))))))) ⟨H,I,J⟩ ?_;simp only[RT.pick,PJ];iterate 5 refine wW ?_
 refine @YBh (fun(b:World) (a g:Nat)=>(kz w b/\w.heap.size<=a/\(∃ cs:Array Value,cs.size=16/\Blk b a 166 cs)/\Blk b w.heap.size 28 #[ii B,ii 8,ii 24])) ?X _ (fun s=>?_) ?_;rotate_left
 . refine wpR_two ?_ ?_
   . refine wpR_loud rq fun K l=>?_
     refine elemUse.wp1_make _ _ rfl .i64 .i64 8 rfl rfl Z Z ?_;intro L a q M c f;refine l _ _ (XD (j.drew.kO f)) ?_
     try simp only[Act.put,PU]
     refine wpR_loud rq fun K l=>?_;refine elemIntsN.wp1_make _ _ rfl .i64 .i64 8 rfl rfl Z Z ?_;intro b g N O t d;refine l _ _ ((XD ((j.drew.kO f).kO d))) ?_
     try simp only[Act.put,PU]
     refine wpR_nil ?_;exact s b a g ⟨(n.drew.tO f).tO d,by rw[q];exact n.drew.size,⟨_,sq,(XAT c).kO d⟩,(j.drew.kO f).kO d⟩
   refine wpR_loud rq fun K l=>?_
   refine elemIntsN.wp1_make _ _ rfl .i64 .i64 8 rfl rfl Z Z ?_;intro L g N M c f;refine l _ _ (XD (j.drew.kO f)) ?_
   try simp only[Act.put,PU]
   refine wpR_loud rq fun K l=>?_;refine elemUse.wp1_make _ _ rfl .i64 .i64 8 rfl rfl Z Z ?_;intro b a q O t d;refine l _ _ ((XD ((j.drew.kO f).kO d))) ?_
   try simp only[Act.put,PU]
   refine wpR_nil ?_;exact s b a g ⟨(n.drew.tO f).tO d,by rw[q];exact(n.drew.tO f).size,⟨_,sq,XAT t⟩,(j.drew.kO f).kO d⟩
 rintro b a g ⟨d,Y,⟨cs,o,c⟩,u⟩;have p:kz b (b.alloc (.cells #[ii B,ii 8,ii 24,.slice (some a) 8 8,.slice (some g) 8 8] 356)):=kq.alloc _;have m:=Blk.new b 356 #[ii B,ii 8,ii 24,.slice (some a) 8 8,.slice (some g) 8 8];obtain⟨P,Q,R⟩:=XD (u.kO p);replace d:=d.tO p;have a0:=c.lt;have S:a≠b.heap.size:=Z
 replace c:=c.kO p;go_wp2_with fail;clear p P Q R u;generalize b.alloc (.cells #[ii B,ii 8,ii 24,.slice (some a) 8 8,.slice (some g) 8 8] 356)=w4 at *;generalize b.heap.size=tb at *;go_loopw [6] (fun i wr=>∃ (k:Nat) (cs:Array Value),k<=8/\i=.int .i64 k/\kz w wr/\Blk wr tb 356 #[ii B,ii 8,ii 24,.slice (some a) 8 8,.slice (some g) 8 8]/\cs.size=16/\Blk wr a 166 cs) (fun i _=>8-(intOf i).toNat)
 case atStart=>exact⟨0,cs,Z,rfl,d,m,o,c⟩
 clear d m o c cs;obtain⟨k,cs,hk,rfl,r,m,o,c⟩:=hrel;obtain⟨a1,a2,a3,T,a4⟩:=cells5y m;by_cases U:k<8
 . obtain⟨v,V⟩:=VAI (E.kO r) U
   have a5:((k:Nat):Int)<8:=Z
   obtain⟨z,y,a6⟩:∃ z:Nat,(if k=0 then (1:Int) else 0)=(z:Nat)/\z<=2:=by
    by_cases A:k=0
    . exact⟨1,by rw[AJ A];rfl,Z⟩
    exact⟨0,by rw[AF A];rfl,Z⟩
   rw[y] at v;clear y;have C:=fun W=>JD (z:Nat) 0 2 true (by simp;omega) W
   go_wp2_with (first
    | (refine(C _).mono ?_;clear C;rintro e w' ⟨rfl,rfl⟩)
    | (refine(F _).mono ?_;rintro e w' ⟨rfl,rfl⟩))
   have q0:cl wr (aq a (k*2)) (cs[k*2]' Z):=by rw[c.cell];simp
   have q1:cl wr (aq a (k*2+1)) (cs[k*2+1]' Z):=by rw[c.cell];simp
   have f0:=c.frozen (k*2);have f1:=c.frozen (k*2+1);refine ZT (fun w'=>cl w' (aq tb 3) (.slice (some a) 8 8)/\cl w' (aq G (k*2)) z/\cl w' (aq G (k*2+1)) zz) 9 [[0,1,2,3,4,5,6,7,8]] ⟨T,v,V⟩ ?_;simp only[PI];iterate 9 refine wG ?_
   refine VB ?_;go_wp2_with fail;have X:=(c.set (k*2) (.int .i64 (z:Nat))).set (k*2+1) (.int .i64 0);have D:Keep [a] wr ((wr.setCell (aq a (k*2)) (.int .i64 (z:Nat))).setCell (aq a (k*2+1)) (.int .i64 0)):=(kq.sc a (k*2)).sc a (k*2+1);go_round;case rel=>exact⟨k+1,_,Z,by go_num,(r.trans D iq).drew,(m.keep D (by simpa using fun h=>S h.symm)).drew,uq o,X.drew⟩
   case measure=>simp[intOf];omega
 obtain rfl:k=8:=Z
 go_wp2
 go_ret;exact⟨tb,rfl,r⟩
theorem JBC {w:World} {b c lo:Nat} {bs:List UInt8} (a:Rd w (some b) 128 (bys bs)) (d:lo+64<=128):Rd w (some (aq b lo)) 64 (bys ((bs.drop lo).take 64)):=by
 have h:=(a.cut (k:=lo) (cap:=200) Z Z).take (k:=64) Z;rw[AF Z,Xl,ZV] at h;simpa [Bw] using h
theorem ZBo {w:World} {base d:Nat} {F:List Nat} {R:PRD} (h:RDkAt w base d F R) (M:R.asked<=1000) (a:Nat) (N:a+2<=R.n) (b c:Nat) (bs:List UInt8) (y:Rd w (some b) 128 (bys bs)) (O:128<=c) (z:b∉F) (P:base<=w.heap.size) :
 Calls prog 201 #[pq d,a,.slice (some b) 128 c] w fun e w'=>e=.returned zz/\∃ g f,RDkAt w' base d g f/\f.n=R.n/\f.asked=R.asked+2/\f.lv=R.lv/\Keep F w w'/\Grow w F g:=by
 have Q:R.n<=4096:=by obtain⟨S,H,U,L,h⟩:=h;exact h.few
 have T:b<w.heap.size:=by obtain⟨_,_,e,h,_⟩:=y.2 Z;cases e;exact h
 go_enter func201,ntmps201;go_wp2_with fail;go_loopw [7,8] (fun i e wr=>∃ (k:Nat) (g:List Nat) (f:PRD),k<=2/\i=.int .i64 k/\RDkAt wr base d g f/\f.n=R.n/\f.asked=R.asked+k/\f.lv=R.lv/\Keep F w wr/\Grow w F g) (fun i _ _=>2-(intOf i).toNat)
 case atStart=>exact⟨0,F,R,Z,rfl,h,rfl,rfl,rfl,kq,Grow.refl _ _⟩
 obtain⟨k,g,f,V,rfl,o,C,D,p,n,l⟩:=hrel;by_cases W:k<2
 . have A:b∉g:=fun E=>(l b E).elim z Z
   have X:((k:Nat):Int)<2:=Z
   have B:=y.keepIf n (by rintro _ ⟨⟩;exact z);have Y:=n.size;rcases(by omega:k=0\/k=1) with rfl | rfl
   . have m:=Vu o Z a Z c _ (JBC (c:=c) (lo:=0) B Z) Z (by rintro _ ⟨⟩;exact A) Z
     have G:(64:Int)<=(c:Nat):=Z
     go_wp2_with (refine m.mono ?_;clear m;rintro I w1 ⟨rfl,q,r,s,J,K,t,u,v⟩);go_roundw;case rel=>exact⟨1,q,r,Z,rfl,s,Z,Z,by rw[t,p],n.trans u (fun x j=>l x j),fun x j=>(v x j).elim (l x) (fun h=>.inr Z)⟩
     case measure=>simp[intOf]
   have m:=Vu o Z (a+1) Z (c-64) _ (JBC (c:=c) (lo:=64) B Z) Z (by rintro _ ⟨⟩;exact A) Z
   rw[Av] at m;have a0:(128:Int)<=(c:Nat):=Z
   have G:¬ c=64:=Z
   go_wp2_with (refine m.mono ?_;clear m;rintro I w1 ⟨rfl,q,r,s,J,K,t,u,v⟩);go_roundw;case rel=>exact⟨2,q,r,Z,rfl,s,Z,Z,by rw[t,p],n.trans u (fun x j=>l x j),fun x j=>(v x j).elim (l x) (fun h=>.inr Z)⟩
   case measure=>simp[intOf]
 obtain rfl:k=2:=Z
 go_wp2
 go_ret;exact⟨rfl,g,f,o,C,D,p,n,l⟩
theorem JBW {P X:World->Nat->Prop} {G:Prop} (f:(∀ a b,P a b->X a b)->G) (r:∀ a b,P a b->X a b):G:=f r
theorem VBg {P X:World->Nat->Nat->Nat->Nat->Prop} {G:Prop} (f:(∀ a b c d e,P a b c d e->X a b c d e)->G) (r:∀ a b c d e,P a b c d e->X a b c d e):G:=f r
theorem JBM {cs:List Value} (a:cs.length=14) (h:W.rangeAt b 0 cs):(Instr.loadAt 240 (.pointer (some b))).run prog W=.ok (.agg cs.toArray) W:=
 EG W b 0 240 cs _ h underlying240 rfl (by rw[a];kernel_rfl)
theorem VAP (cs:List Value) (a:cs.length=14) (c:∀ u∈cs,u.oneCell'=true) (h:W.there b 0 14):(Instr.storeAt 240 (.pointer (some b)) (.agg cs.toArray)).run prog W=.ok () (W.setCells b 0 cs):=
 Da W b 0 240 cs.toArray (by simpa [a] using h) (by rw[Ay,a];kernel_rfl) (DC c)
theorem Ky {w:World} {a:Nat} {b:TypeId} {cs c:Array Value} (h:Blk w g t cs) (d:Blk w a b c) (e:t≠b):g≠a:=by
 rintro rfl;have:=h.symm.trans d;simp at this;exact e this.2
theorem ZAb {w:World} {P:Nat} (h:Blk w g 3 (madeCells (Value.int .i64 0).cells (P*1))):Rd w (some g) P (zv P):=by
 rw[show (Value.int .i64 0).cells=Array.replicate 1 (.int .i64 0) from rfl,XT _ _ _ Z,Cz] at h;have:=Rd.of_blk (n:=P) h sq;simpa [zv] using this
theorem YAt {w:World} {m:Nat} (h:Blk w g 5 (madeCells (Value.int .u8 0).cells (m*1))):Rd w (some g) m (bys (List.replicate m 0)):=by
 rw[show (Value.int .u8 0).cells=Array.replicate 1 (.int .u8 0) from rfl,XT _ _ _ Z,Cz] at h;have:=Rd.of_blk (n:=m) h sq;simpa [bys,by8] using this
theorem JAx {w:World} (h:Blk w g 166 ((Array.replicate 16 (.int .i64 0)).setIfInBounds 0 (.int .i64 1))):SegsR w g:=by
 have:=Rd.of_blk (n:=16) h sq;exact this
theorem ImgAt.keepN {w w':World} {base m B:Nat} {Fi N:List Nat} (h:ImgAt w base m Fi B) (a:KeepN N w w') (c:∀ b∈Fi,b∈N):ImgAt w' base m Fi B:=by
 obtain⟨l,a,d⟩:=a;exact h.keep a (fun b e=>d _ (c b e))
def Laid (w0 w:World) (base d:Nat) (F:List Nat) (n j:Nat) (N:List Nat):Prop:=∃ F' R',RDkAt w base d F' R'/\R'.n=n/\R'.asked<=j/\R'.lv.length<=j/\Keep F w0 w/\Grow w0 F F'/\∀ b∈N,b∉F'/\b<w.heap.size
namespace Laid
variable {w0 w w':World} {base d n j:Nat} {F N:List Nat}
theorem keepF (h:Laid w0 w base d F n j N):Keep F w0 w:=by obtain⟨_,_,_,_,_,_,h,_⟩:=h;exact h
theorem kO (h:Laid w0 w base d F n j N) (a:kz w w'):Laid w0 w' base d F n j N:=by
 obtain⟨f,g,i,k,l,m,o,p,c⟩:=h;have:=a.size;exact⟨f,g,i.kO a,k,l,m,o.tO a,p,fun b e=>⟨(c b e).1,by have:=(c b e).2;omega⟩⟩
theorem mono (h:Laid w0 w base d F n j N) {i:Nat} (hi:j<=i):Laid w0 w base d F n i N:=by
 obtain⟨a,b,c,e,k,l,f,g⟩:=h;exact⟨a,b,c,e,Z,Z,f,g⟩
theorem sub (h:Laid w0 w base d F n j N) {M:List Nat} (a:∀ b∈M,b∈N):Laid w0 w base d F n j M:=by
 obtain⟨c,e,f,g,i,k,l,m,o⟩:=h;exact⟨c,e,f,g,i,k,l,m,fun b p=>o b (a b p)⟩
theorem add (h:Laid w0 w base d F n j N) (a:kz w w') (s:w.heap.size<=b) (g:b<w'.heap.size):Laid w0 w' base d F n j (b :: N):=by
 have t:=h.kO a;obtain⟨i,k,e,l,m,o,p,q,f⟩:=h;have u:=a.size;refine⟨i,k,e.kO a,l,m,o,p.tO a,q,fun x c=>?_⟩;rcases AL.1 c with rfl | c
 . exact⟨fun r=>by have:=e.lt _ r;omega,g⟩
 exact⟨(f x c).1,by have:=(f x c).2;omega⟩
theorem addL (h:Laid w0 w base d F n j N) (c:kz w w') (L:List Nat) (e:∀ b∈L,w.heap.size<=b/\b<w'.heap.size):Laid w0 w' base d F n j (L++N):=by
 have s:=c.size;obtain⟨i,k,f,l,m,o,p,q,g⟩:=h;refine⟨i,k,f.kO c,l,m,o,p.tO c,q,fun x a=>?_⟩;rcases AD.1 a with a | a
 . exact⟨fun r=>by have:=f.lt _ r;have:=(e x a).1;omega,(e x a).2⟩
 exact⟨(g x a).1,by have:=(g x a).2;omega⟩
theorem turn (h:Laid w0 w base d F n j N) {l:List Nat} (a:Keep l w w') (f:∀ x∈l,x∈N/\w0.heap.size<=x):Laid w0 w' base d F n j N:=by
 obtain⟨i,k,m,o,p,q,r,s,c⟩:=h;have:=a.size;exact⟨i,k,m.keep a (fun x e t=>(c x (f x t).1).1 e),o,p,q,r.trans a (fun x e=>.inr (f x e).2),s,fun b g=>⟨(c b g).1,by have:=(c b g).2;omega⟩⟩
theorem mean (h:Laid w0 w base d F n j N) (v:j<=500) (a:base<=w0.heap.size) (A:Option Addr) (m c:Nat) :
 Calls prog 200 #[pq d,.slice A m c] w fun e w'=>e=.returned (.tuple #[])/\Laid w0 w' base d F n (j+1) N/\KeepN N w w':=by
 obtain⟨o,y,p,z,B,C,i,k,f⟩:=h;have D:=i.size;refine(KBO p Z A m c Z).mono ?_;rintro e w' ⟨rfl,q,r,s,E,G,H,g,l⟩;have I:=g.size;exact⟨rfl,⟨q,r,s,Z,Z,Z,i.trans g k,fun x t=>(l x t).elim (k x) (fun h=>.inr Z),fun b a=>⟨fun u=>(l b u).elim (f b a).1 (by have:=(f b a).2;omega),by have:=(f b a).2;omega⟩⟩,o,g,fun b a=>(f b a).1⟩
theorem write (h:Laid w0 w base d F n j N) (B:j<=500) (a:base<=w0.heap.size) (k:Nat) (C:k<n) (b c:Nat) (bs:List UInt8) (o:Rd w (some (aq b 0)) 64 (bys bs)) (p:64<=c) (q:b∈N) :
 Calls prog 296 #[pq d,k,.slice (some (aq b 0)) 64 c] w fun e w'=>e=.returned zz/\Laid w0 w' base d F n (j+1) N/\KeepN N w w':=by
 obtain⟨r,D,s,E,G,H,i,l,f⟩:=h;have I:=i.size;refine(Vu s Z k Z c bs o p (by rintro _ ⟨⟩;exact(f b q).1) Z).mono ?_;rintro e w' ⟨rfl,t,u,v,J,K,y,g,m⟩;have L:=g.size;have M:=congrArg List.length y;exact⟨rfl,⟨t,u,v,Z,Z,Z,i.trans g l,fun x z=>(m x z).elim (l x) (fun h=>.inr Z),fun b a=>⟨fun A=>(m b A).elim (f b a).1 (by have:=(f b a).2;omega),by have:=(f b a).2;omega⟩⟩,r,g,fun b a=>(f b a).1⟩
theorem rows (h:Laid w0 w base d F n j N) (B:j<=500) (a:base<=w0.heap.size) (k:Nat) (C:k+2<=n) (b c:Nat) (bs:List UInt8) (o:Rd w (some (aq b 0)) 128 (bys bs)) (p:128<=c) (q:b∈N) :
 Calls prog 201 #[pq d,k,.slice (some (aq b 0)) 128 c] w fun e w'=>e=.returned zz/\Laid w0 w' base d F n (j+2) N/\KeepN N w w':=by
 obtain⟨r,D,s,E,G,H,i,l,f⟩:=h;have I:=i.size;refine(ZBo s Z k Z b c bs o p (f b q).1 Z).mono ?_;rintro e w' ⟨rfl,t,u,v,J,K,y,g,m⟩;have L:=g.size;have M:=congrArg List.length y;exact⟨rfl,⟨t,u,v,Z,Z,Z,i.trans g l,fun x z=>(m x z).elim (l x) (fun h=>.inr Z),fun b a=>⟨fun A=>(m b A).elim (f b a).1 (by have:=(f b a).2;omega),by have:=(f b a).2;omega⟩⟩,r,g,fun b a=>(f b a).1⟩
theorem flush (h:Laid w0 w base d F n j N) (m:j<=500) :
 Calls prog 194 #[pq d] w fun e w'=>e=.returned zz/\Keep F w0 w'/\KeepN N w w':=by
 obtain⟨c,o,f,p,q,r,g,i,k⟩:=h;refine(ZBD f Z).mono ?_;rintro e w' ⟨rfl,a⟩;exact⟨rfl,g.trans a i,c,a,fun b l=>(k b l).1⟩