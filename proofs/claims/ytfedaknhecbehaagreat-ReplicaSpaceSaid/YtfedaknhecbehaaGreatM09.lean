/- Lemmas of the proof, with their conditions. -/
import Derived.Test.YtfedaknhecbehaaGreatM06
import Derived.Test.YtfedaknhecbehaaGreatM08
namespace Go.Proofs.YtfedaknhecbehaaGreat
open Tryz Go.RowKit
variable {W0 w4 w3:World} {u x0 x1 x2 x3 x4:Value} {g a k n i m c:Nat} {t ty:TypeId} {cs:Array Value} {bs:List UInt8} {A:Option Addr} {ls:List (Value×List UInt8)}
set_option linter.all false
set_option maxHeartbeats 4000000
set_option maxRecDepth 20000
structure PItem where
 k:Nat
 b:Nat
 c:Nat
 v:Nat
def itc (i:PItem):List Value:=[.int .i64 i.k,.int .i64 i.b,.int .i64 i.c,.int .i64 i.v]
theorem JH (i:PItem):(itc i).length=4:=rfl
def PItem.May (i:PItem):Prop:=
 ((i.k=1\/i.k=5)/\i.b<=63/\i.c=0/\i.v=0)\/((i.k=2\/i.k=6)/\i.b<=63/\1<=i.c/\i.c+i.b<=64/\i.v=0)\/(i.k=3/\i.b=0/\i.c=0/\1<=i.v/\i.v<=2147483647) \/
 (i.k=4/\i.b<=63/\i.c=0/\1<=i.v/\i.v<=4095)\/(i.k=7/\i.b=0/\i.c=0/\i.v<=31)
def PItem.loaded (i:PItem):Bool:=i.k == 1 || i.k == 4 || i.k == 5
theorem PItem.May.bounds {i:PItem} (h:i.May):i.k<=7/\i.b<=63/\i.c<=64/\i.v<=2147483647:=by
 rcases h with⟨h | h,_⟩ | ⟨h | h,_⟩ | ⟨h,_⟩ | ⟨h,_⟩ | ⟨h,_⟩ <;> omega
theorem YAi (n lo hi:Int) (w:World):cq 345 #[ii n,ii lo,ii hi] w (.bool (decide (lo<=n/\n<=hi))):=by
 by_cases a:lo<=n
 . by_cases b:n<=hi
   all_goals
    go_enter func345,ntmps345
    go_wp2
    go_ret;exact⟨by simp[a,b],rfl⟩
 go_enter func345,ntmps345
 go_wp2
 go_ret;exact⟨by simp;omega,rfl⟩
theorem Vl {i:PItem} (h:i.May) (w:World):cr 236 #[.agg (itc i).toArray] w (.bool true):=by
 obtain⟨k,b,c,v⟩:=i;simp only[itc];have j:=fun n lo hi W (h:lo<=n/\n<=hi)=>(by have:=YAi n lo hi W;rwa [AH h] at this:cq 345 #[ii n,ii lo,ii hi] W (.bool true));have l:=Blk.new w 178 #[ii k,ii b,ii c,ii v];rcases h with⟨h | h,a,d,f⟩ | ⟨h | h,a,d,f,g⟩ | ⟨h,a,d,f,g⟩ | ⟨h,a,d,f,g⟩ | ⟨h,a,d,f⟩
 all_goals
  simp only at h a d f
  try simp only at g
  subst h
  try subst d
  try subst f
  try subst g
  try subst a
  go_enter func236,ntmps236;go_wp2_with (go_at_call 345;refine(j _ _ _ _ ⟨Z,Z⟩).mono ?_;rintro e w' ⟨rfl,rfl⟩);go_ret;exact⟨rfl,kq.alloc _⟩
theorem Xh {i:PItem} (h:i.May) (w:World):cr 212 #[.agg (itc i).toArray] w (.bool i.loaded):=by
 have a:=fun W=>Vl h W;obtain⟨k,b,c,v⟩:=i;simp only[itc] at a ⊢;have f:=h.bounds.1;simp only at f;have d:k=1\/k=2\/k=3\/k=4\/k=5\/k=6\/k=7:=by rcases h with⟨h | h,_⟩ | ⟨h | h,_⟩ | ⟨h,_⟩ | ⟨h,_⟩ | ⟨h,_⟩ <;> simp only at h <;> omega
 clear h f;have j:=fun(w1:World) (d:kz (w.alloc (.cells #[ii k,ii b,ii c,ii v] 178)) w1)=>(Blk.new w 178 #[ii k,ii b,ii c,ii v]).kO d;rcases d with rfl | rfl | rfl | rfl | rfl | rfl | rfl
 all_goals
  go_enter func212,ntmps212;go_wp2_with (refine(a _).mono ?_;clear a;rintro e w1 ⟨rfl,g⟩;have l:=(j _ g).cell 0;simp at l);go_ret;exact⟨rfl,(kq.alloc _).tO g⟩
def sealed (N:Nat) (H:List UInt8):List UInt8:=laid (laid (List.replicate N 0) 0 H) (N-4) (le 4 (KM ((laid (List.replicate N 0) 0 H).take (N-4))))
theorem KAG (N:Nat) (H:List UInt8) (a:4<=N) (h:H.length<=N):(sealed N H).length=N:=by
 unfold sealed;rw[QG _ _ _ (by rw[length_le,KK _ _ h];omega),KK _ _ h]
theorem YBI {w1:World} {r N:Nat} {v:Value} {H:List UInt8} (b:W0.ownsRow w1.heap.size 5 1 u N (bys (laid (List.replicate N 0) 0 H))) (c:4<=N) (d:N<=65536) (h:H.length<=N) :
 Calls prog 337 #[u] W0 fun e w'=>e=.returned u/\w'.ownsRow w1.heap.size 5 1 u N (bys (sealed N H))/\Keep u.ownBlock.toList W0 w':=by
 have a:=KK N H h;have:=Yt (base:=w1.heap.size) (v:=u) (laid (List.replicate N 0) 0 H) (w:=W0) (by rw[a];exact b) Z Z;rw[a] at this;exact this
theorem Vb (n lo hi:Int) (w:World) (h:lo<=n/\n<=hi):cq 431 #[ii n,ii lo,ii hi] w (.bool true):=by
 obtain⟨a,b⟩:=h;go_enter func431,ntmps431
 go_wp2
 go_ret;exact⟨rfl,rfl⟩
def QAP (seg mount lsn prev:Nat):List UInt8:=([]++[75,72,seg].flatMap (le 1))++[mount,lsn,prev].flatMap (le 4)
theorem XZ (a b c d:Nat):(QAP a b c d).length=15:=by simp[QAP,KD]
theorem QBN (c a b d:Nat) (j:c<=31) (k:1<=a/\a<=2147483647) (l:1<=b/\b<=2147483647) (m:d<=4294967295) (w:World) :
 cr 385 #[.agg #[ii c,ii a,ii b,ii d]] w (.bool true):=by
 have f:=fun W=>Vb c 0 31 W ⟨Z,Z⟩;have g:=fun W=>Vb a 1 2147483647 W ⟨Z,Z⟩;have h:=fun W=>Vb b 1 2147483647 W ⟨Z,Z⟩;have i:=fun W=>Vb d 0 4294967295 W ⟨Z,Z⟩;go_enter func385,ntmps385;go_wp2_with (first | (refine(f _).mono ?_;clear f;rintro e w' ⟨rfl,rfl⟩) | (refine(g _).mono ?_;clear g;rintro e w' ⟨rfl,rfl⟩) | (refine(h _).mono ?_;clear h;rintro e w' ⟨rfl,rfl⟩) | (refine(i _).mono ?_;clear i;rintro e w' ⟨rfl,rfl⟩));go_ret;exact⟨rfl,kq.alloc _⟩
theorem JE {w:World} (h:Blk w g t #[x0,x1,x2,x3]) :
 cl w g x0/\cl w (aq g 1) x1/\cl w (aq g 2) x2/\cl w (aq g 3) x3:=
 ⟨uq (h.cell 0),uq (h.cell 1),uq (h.cell 2),uq (h.cell 3)⟩
theorem YAa (c a b d:Nat) (H:c<=31) (I:1<=a/\a<=2147483647) (J:1<=b/\b<=2147483647) (K:d<=4294967295) (w:World) :
 Calls prog 329 #[.agg #[ii c,ii a,ii b,ii d]] w fun e w'=>∃ u,e=.returned (.tuple #[u,zz])/\w'.ownsRow w.heap.size 5 1 u 64 (bys (sealed 64 (QAP c a b d)))/\kz w w':=by
 have A:=fun W=>QBN c a b d H I J K W;have L:=Blk.new w 383 #[ii c,ii a,ii b,ii d];go_enter func329,ntmps329
 go_wp2_with (
  (refine(A _).mono ?_)
  rintro r w1 ⟨rfl,B⟩;clear A;have q:=L.kO B;obtain⟨i,j,l,m⟩:=JE q;have R:=q.lt)
 have C:=QAJ 64 Z w1
 go_wp2_with (
  (refine C.mono ?_)
  rintro r M ⟨g,u,rfl,D,h⟩;clear C;have f:=q.kO h;clear i j l m;obtain⟨i,j,l,m⟩:=JE f;have t:=f.lt)
 have n:RowAt M w1.heap.size g u (laid (List.replicate 64 0) 0 []) ([]:List UInt8).length:=by rw[laid_nil];exact D
 clear D;have o:=Xn (k:=1) h n Z [75,72,c] (by simp;omega) sq (by simp[KD]) #[ii 75,ii 72,ii c] rfl 3 rfl
 go_wp2_with (
  (refine o.mono ?_)
  clear o;rintro r w3 ⟨rfl,s,p⟩;clear n h f i j l m t;have f:=q.kO p;obtain⟨i,j,l,m⟩:=JE f;have t:=f.lt;have n:=s;have h:=p;clear s p)
 have o:=Xn (k:=4) h n Z [a,b,d] (by simp;omega) sq (by simp[KD]) #[ii a,ii b,ii d] rfl 3 rfl
 go_wp2_with (
  (refine o.mono ?_)
  clear o;rintro r w3 ⟨rfl,s,p⟩;clear n h f i j l m t;have y:=Qm s)
 rw[show ([]++[75,72,c].flatMap (le 1))++[a,b,d].flatMap (le 4)=QAP c a b d from rfl,KK _ _ (by rw[XZ];omega)] at y
 go_wp2_with (
  (refine y.mono ?_)
  clear y;rintro r w4 ⟨E,rfl,F,N⟩;have G:=YBI (w1:=w3) (r:=0) (v:=E) F Z Z (by rw[XZ];omega))
 go_wp2_with (
  (refine G.mono ?_)
  clear G;rintro r S ⟨rfl,O,P⟩)
 go_ret2;have z:kz w w3:=((kq.alloc _).tO B).tO p;refine⟨E,rfl,VC O z.size,(z.tO N).trans P (fun x Q=>.inr ?_)⟩;exact AB z.size (own_mem F Q).1
def RowX (w:World) (base r:Nat) (v:Value) (N a:Nat):Prop:=∃ bs,bs.length=N/\RowAt w base r v bs a
theorem RowX.kO {w w':World} {base r N:Nat} {v:Value} (h:RowX w base r v N a) (b:kz w w'):RowX w' base r v N a:=by
 obtain⟨bs,c,d⟩:=h;exact⟨bs,c,d.kO b⟩
theorem RowX.fresh {w:World} {base r N:Nat} {v:Value} (h:RowX w base r v N a):∀ x∈r :: v.ownBlock.toList,base<=x:=by
 obtain⟨bs,c,b⟩:=h;exact b.fresh
theorem RowX.blk {w w':World} {base r N:Nat} {v:Value} (h:RowX w base r v N a) (d:Keep (r :: v.ownBlock.toList) w w') (b:Blk w g t cs) (e:t≠400) (f:5≠t):Blk w' g t cs:=by
 obtain⟨bs,_,h⟩:=h;refine b.keep d (fun c=>?_);rcases AL.1 c with rfl | c
 . exact Blk.ne_ (t:=t) b h.blk e rfl
 exact own_blk_ne h.own b f (uq c)
theorem VBp (n:Nat) (a:n<=65536) (w:World) :
 Calls prog 335 #[n] w fun e w'=>∃ r v,e=.returned (pq r)/\RowX w' w.heap.size r v n 0/\kz w w':=by
 refine(QAJ n a w).mono ?_;rintro e w' ⟨r,v,rfl,h,b⟩;exact⟨r,v,rfl,⟨_,sq,h⟩,b⟩
theorem JBp {base r N:Nat} {v:Value} (f:RowX W0 base r v N a) (g:k=1\/k=2\/k=4) (zs:List Nat) (h:∀ z∈zs,z<256 ^ k) (i:0<zs.length) (y:a+k*zs.length<=N)
 (cs:Array Value) (d:cs.toList=XP zs) (m:Nat) (j:m=zs.length) :
 Calls prog 336 #[pq r,k,.slice (some W0.heap.size) m m] (W0.alloc (.cells cs 3)) fun e w'=>e=.returned (.bool true) /\
  RowX w' base r v N (a+k*m)/\Keep (r :: v.ownBlock.toList) W0 w':=by
 subst j;obtain⟨bs,l,c⟩:=f;have o:RowAt (W0.alloc (.cells cs 3)) base r v bs a:=c.kO (kq.alloc _)
 have q:Rd (W0.alloc (.cells cs 3)) (some W0.heap.size) zs.length (XP zs):=by
  have s:cs.toList.length=zs.length:=by rw[d,length_nats]
  have:=Rd.of_blk (n:=zs.length) (Blk.new W0 3 cs) (uq (Ar s.symm));rw[d,AK sq] at this;exact this
 refine(ZAU k o g zs.length zs q (fun p t=>?_) h i Z).mono ?_
 . cases t
   intro b;rcases AL.1 b with e | b
   . exact absurd (show W0.heap.size=r from e) (C7 c.blk.lt)
   exact absurd (own_mem c.own b).2 (CQ _)
 rintro e w' ⟨rfl,u,w⟩
 refine⟨rfl,⟨_,?_,u⟩,(kq.alloc _).trans w (fun x b=>.inl b)⟩;rw[QG _ _ _ (by rw[KD];omega)];exact l
theorem QBi {base r N:Nat} {v:Value} (c:RowX W0 base r v N a) :
 Calls prog 338 #[pq r] W0 fun e w'=>∃ u bs,e=.returned u/\bs.length=N/\w'.ownsRow W0.heap.size 5 1 u N (bys bs)/\kz W0 w':=by
 obtain⟨bs,b,d⟩:=c;refine(Qm d).mono ?_;rintro e w' ⟨u,rfl,f,g⟩;exact⟨u,bs,rfl,b,by rw[<- b];exact f,g⟩
theorem YBo {base N:Nat} (b:bs.length=N) (c:W0.ownsRow base 5 1 u N (bys bs)) (d:4<=N) (g:N<=65536) :
 Calls prog 337 #[u] W0 fun e w'=>∃ cs,e=.returned u/\cs.length=N/\w'.ownsRow base 5 1 u N (bys cs)/\Keep u.ownBlock.toList W0 w':=by
 subst b;refine(Yt bs c d Z).mono ?_;rintro e w' ⟨rfl,a,f⟩;refine⟨_,rfl,?_,a,f⟩;simpa using a.1
theorem VI {c:Type} {f:c->List Value} {s:Nat} (d:∀ x,(f x).length=s) {w:World} {xs:List c} (h:Rd w (some g) (n*s) (xs.flatMap f)) {j:Nat} (hi:i<xs.length) (e:j<s) :
 g<w.heap.size/\w.cell? (aq g (i*s+j))=(f xs[i])[j]? := by
 have a:=YN d xs i j hi e;have k:j<(f xs[i]).length:=by rw[d xs[i]];exact e
 obtain⟨u,l⟩:∃ u,(f xs[i])[j]? = some u:=⟨_,AC k⟩;rw[l] at a ⊢
 have m:0<n*s:=by
  have:=(BS.1 a).1;rw[h.1] at this;omega
 obtain⟨b,o,p,q,r⟩:=h.2 m;cases p;exact⟨q,uq (r _ _ a)⟩
theorem KBL (A:Option Addr) (c:Nat) (w:World):cq 434 #[.slice A 64 c] w (.bool false):=by
 go_enter func434,ntmps434
 go_wp2
 go_ret;exact⟨rfl,rfl⟩
theorem XAU (c:Nat) {w:World} (d:Rws w A n ls) (h:∀ p∈ls,p.2.length=64) (v:n<=1000000) :
 cr 451 #[.slice A n c,.func (.func 434) #[] #[]] w (ii (-1)):=by
 have r:=ZB d.len;go_enter func451,ntmps451;go_wp2_with fail;go_loopw [5,8] (fun _ i wr=>∃ k:Nat,k<=n/\i=.int .i64 k/\kz w wr) (fun _ i _=>n-(intOf i).toNat)
 case atStart=>exact⟨0,AP _,rfl,kq⟩
 obtain⟨k,y,rfl,a⟩:=hrel;by_cases f:k<n
 . have g:k<ls.length:=by rw[ZA r];exact f
   have z:((k:Nat):Int)<(n:Nat):=Z
   obtain⟨b,o,rfl,B,C,s⟩:=(d.keep a).at_ f g;have j:=h _ (AN g);generalize ls[k]=p at *;obtain⟨D,t⟩:=p;obtain⟨E,l,F,m,G,H,u⟩:=s;simp only at m;subst m;have q:t.length=l:=uq u.1
   obtain rfl:64=l:=by rw[<- q];exact j.symm
   clear q j;go_wp2_with (refine(KBL _ _ _).mono ?_;rintro e w' ⟨rfl,rfl⟩);go_roundw;case rel=>exact⟨k+1,Z,by go_num,a⟩
   case measure=>simp[intOf];omega
 obtain rfl:n=k:=Z
 go_wp2
 go_ret;exact⟨rfl,a⟩
theorem JAN (c:Nat) {w:World} (b:Rws w A n ls) (h:∀ p∈ls,p.2.length=64) (d:n<=1000000) :
 cr 433 #[.slice A n c,.func (.func 434) #[] #[]] w (.bool false):=by
 have a:=XAU c b h d;go_enter func433,ntmps433;go_wp2_with (refine a.mono ?_;clear a;rintro e w' ⟨rfl,f⟩);go_ret;exact⟨rfl,f⟩
theorem Xa (n lo hi:Int) (w:World) (h:lo<=n/\n<=hi):cq 432 #[ii n,ii lo,ii hi] w (.bool true):=by
 obtain⟨a,b⟩:=h;go_enter func432,ntmps432
 go_wp2
 go_ret;exact⟨rfl,rfl⟩
def ZG (is:List PItem):Nat:=(is.filter (·.loaded)).length
theorem Jf (is:List PItem) (i:PItem):ZG (is++[i])=ZG is+if i.loaded then 1 else 0:=by
 unfold ZG;rw[DV,AE];cases h:i.loaded <;> simp[h]
theorem YK (is:List PItem):ZG is<=is.length:=DX _ _
theorem VD {w:World} (h:Blk w g t #[x0,x1,x2,x3,x4]) :
 cl w g x0/\cl w (aq g 1) x1/\cl w (aq g 2) x2/\cl w (aq g 3) x3/\cl w (aq g 4) x4:=
 ⟨uq (h.cell 0),uq (h.cell 1),uq (h.cell 2),uq (h.cell 3),uq (h.cell 4)⟩
theorem JAf (d f o:Nat) (h2:1<=d/\d<=2147483647) (h3:1<=f/\f<=2147483647) (h4:o<=4294967295) (g n c:Nat) (is:List PItem) (t:Nat) {w:World}
 (u:Rd w (some g) (n*4) (is.flatMap itc)) (F:is.length=n) (hm:∀ i∈is,i.May) (h1:1<=n) (h6:n<=6) (hb:Rws w A m ls) (a2:∀ p∈ls,p.2.length=64) (G:m=ZG is) :
 cr 386 #[.agg #[ii d,ii f,ii o,.slice (some g) n c,.slice A m t]] w (.bool true):=by
 have ac:m<=6:=by have:=YK is;omega
 have H:=fun W=>Xa d 1 2147483647 W ⟨Z,Z⟩;have I:=fun W=>Xa f 1 2147483647 W ⟨Z,Z⟩;have J:=fun W=>Xa o 0 4294967295 W ⟨Z,Z⟩;have K:=fun W=>Xa n 1 6 W ⟨Z,Z⟩;obtain⟨a,r⟩:∃ a:Nat->Nat,∀ k,a k=ZG (is.take k):=⟨_,fun _=>rfl⟩;have L:a 0=0:=by rw[r];simp[ZG]
 have M:a n=m:=by rw[r,AK Z,G]
 have N:∀ k (h:k<is.length),a (k+1)=a k+if is[k].loaded then 1 else 0:=fun k h=>by rw[r,r,AO h,Jf]
 have y:∀ k,k<=n->a k<=6:=fun k h=>by rw[r];have:=YK (is.take k);rw[BH] at this;omega
 have a3:=ZB N;have a4:=ZB M;have a5:=ZB F;clear N M r G F;have s:=Blk.new w 280 #[ii d,ii f,ii o,.slice (some g) n c,.slice A m t];go_enter func386,ntmps386;go_wp2_with (first | (refine(H _).mono ?_;clear H;rintro e w' ⟨rfl,rfl⟩) | (refine(I _).mono ?_;clear I;rintro e w' ⟨rfl,rfl⟩) | (refine(J _).mono ?_;clear J;rintro e w' ⟨rfl,rfl⟩) | (refine(K _).mono ?_;clear K;rintro e w' ⟨rfl,rfl⟩));obtain⟨w1,B⟩:=ex (w.alloc (.cells #[ii d,ii f,ii o,.slice (some g) n c,.slice A m t] 280));have O:kz w w1:=by rw[B];exact kq.alloc _
 rw[<- B] at s ⊢;clear B;go_loopw [3,5,32] (fun z _ i wr=>∃ k:Nat,k<=n/\i=.int .i64 k/\z=.int .i64 (a k:Nat)/\kz w wr/\Blk wr w.heap.size 280 #[ii d,ii f,ii o,.slice (some g) n c,.slice A m t]) (fun _ _ i _=>n-(intOf i).toNat)
 case atStart=>exact⟨0,AP _,rfl,by rw[L];rfl,O,s⟩
 clear O s L;obtain⟨k,h,rfl,rfl,b,s⟩:=hrel;by_cases a6:k<n
 . have l:k<is.length:=by rw[ZA a5];exact a6
   have ad:((k:Nat):Int)<(n:Nat):=Z
   have ae:g<wr.heap.size:=(VI JH (u.keep b) l (j:=0) Z).1;have P:=(VI JH (u.keep b) l (j:=0) Z).2;have Q:=(VI JH (u.keep b) l (j:=1) Z).2;have R:=(VI JH (u.keep b) l (j:=2) Z).2;have S:=(VI JH (u.keep b) l (j:=3) Z).2;have C:=hm _ (AN l);have D:=fun W=>Vl C W;have E:=fun W=>Xh C W;have a7:=ZB (ZA a3 k l);have af:=y k h;clear y;generalize is[k]=it at *;generalize a8:a (k+1)=q2 at *;generalize hq:a k=q at *;obtain⟨T,U,V,X⟩:=it;generalize a9:PItem.loaded ⟨T,U,V,X⟩=lb at *;simp only[itc,Bj,BX,BK] at P Q R S D E;clear C a9 hq;have Y:=Blk.new wr 178 #[ii T,ii U,ii V,ii X];cases lb
   all_goals
    go_wp2_with (
     (refine(D _).mono ?_)
     rintro e w2 ⟨rfl,v⟩;clear D;have a0:=Y.kO v;clear Y;obtain⟨d0,d1,d2,d3⟩:=JE a0;have ag:=a0.lt)
    go_wp2_with (
     (refine(E _).mono ?_)
     rintro e w3 ⟨rfl,aa⟩;clear E)
    have a1:kz wr w3:=((kq.alloc _).tO v).tO aa;go_roundw;case rel=>exact⟨k+1,Z,by go_num,by rw[a8,ZA a7];simp,b.tO a1,s.kO a1⟩
    case measure=>simp[intOf];omega
 obtain rfl:n=k:=Z
 rw[ZA a4];clear y;have ab:=fun(W:World) (h:kz wr W)=>JAN t (hb.keep (b.tO h)) a2 Z;obtain⟨P,Q,R,S,c4⟩:=VD s;go_wp2_with (refine(ab _ ?_).mono ?_;rotate_left;rintro e w' ⟨rfl,v⟩;rotate_right;exact kq);go_ret;exact⟨rfl,b.tO v⟩
def QY (N:Nat) (H:List UInt8):List UInt8:=H++List.replicate (N-H.length) 0
@[simp] theorem length_zpad {N:Nat} {H:List UInt8} (h:H.length<=N):(QY N H).length=N:=by simp[QY];omega
theorem QAQ {N:Nat} {H ys:List UInt8} (h:H.length+ys.length<=N):laid (QY N H) H.length ys=QY N (H++ys):=by
 unfold laid QY;rw[List.take_left,CH,Dy Z,Am,CV,AE]
 congr 2
 omega
def RowZ (w:World) (base r:Nat) (v:Value) (N:Nat) (H:List UInt8):Prop:=H.length<=N/\RowAt w base r v (QY N H) H.length
namespace RowZ
variable {w w':World} {base r N:Nat} {v:Value} {H:List UInt8}
theorem kO (h:RowZ w base r v N H) (a:kz w w'):RowZ w' base r v N H:=⟨h.1,h.2.kO a⟩
theorem fresh (h:RowZ w base r v N H):∀ x∈r :: v.ownBlock.toList,base<=x:=h.2.fresh
theorem x (h:RowZ w base r v N H):RowX w base r v N H.length:=⟨_,length_zpad h.1,h.2⟩
end RowZ
theorem ZBi (n:Nat) (a:n<=65536) (w:World) :
 Calls prog 335 #[n] w fun e w'=>∃ r v,e=.returned (pq r)/\RowZ w' w.heap.size r v n []/\kz w w':=by
 refine(QAJ n a w).mono ?_;rintro e w' ⟨r,v,rfl,h,b⟩;exact⟨r,v,rfl,⟨sq,by simpa [QY] using h⟩,b⟩
theorem JAJ {base r N:Nat} {v:Value} {H:List UInt8} (h:RowZ W0 base r v N H) (i:k=1\/k=2\/k=4) (zs:List Nat) (j:∀ z∈zs,z<256 ^ k) (l:0<zs.length) (c:H.length+k*zs.length<=N)
 (cs:Array Value) (d:cs.toList=XP zs) (m:Nat) (o:m=zs.length) :
 Calls prog 336 #[pq r,k,.slice (some W0.heap.size) m m] (W0.alloc (.cells cs 3)) fun e w'=>e=.returned (.bool true) /\
  RowZ w' base r v N (H++zs.flatMap (le k))/\Keep (r :: v.ownBlock.toList) W0 w':=by
 subst o;obtain⟨q,b⟩:=h;have s:RowAt (W0.alloc (.cells cs 3)) base r v (QY N H) H.length:=b.kO (kq.alloc _)
 have t:Rd (W0.alloc (.cells cs 3)) (some W0.heap.size) zs.length (XP zs):=by
  have u:cs.toList.length=zs.length:=by rw[d,length_nats]
  have:=Rd.of_blk (n:=zs.length) (Blk.new W0 3 cs) (uq (Ar u.symm));rw[d,AK sq] at this;exact this
 have f:=KD k zs;refine(ZAU k s i zs.length zs t (fun p w=>?_) j l (by rw[length_zpad q];exact c)).mono ?_
 . cases w
   intro a;rcases AL.1 a with e | a
   . exact absurd (show W0.heap.size=r from e) (C7 b.blk.lt)
   exact absurd (own_mem b.own a).2 (CQ _)
 rintro e w' ⟨rfl,g,y⟩
 rw[QAQ Z] at g;exact⟨rfl,⟨by rw[AE,f];exact c,by rw[AE,f];exact g⟩,(kq.alloc _).trans y (fun x a=>.inl a)⟩
theorem KBp {base r N:Nat} {v:Value} {H:List UInt8} (g:RowZ W0 base r v N H) {S:Option Addr} (a:Nat) (ys:List UInt8) (b:Rd W0 S m (bys ys)) (c:H.length+m<=N) :
 Calls prog 352 #[pq r,.slice S m a] W0 fun e w'=>e=.returned (.bool true)/\RowZ w' base r v N (H++ys)/\Keep (r :: v.ownBlock.toList) W0 w':=by
 obtain⟨h,i⟩:=g;have d:ys.length=m:=uq b.1
 refine(QBB i a ys b (by rw[length_zpad h];exact c)).mono ?_;rintro e w' ⟨rfl,f,j⟩;rw[QAQ Z] at f;exact⟨rfl,⟨by rw[AE,d];exact c,by rw[AE,d];exact f⟩,j⟩
theorem KBo {base r N:Nat} {v:Value} {H:List UInt8} (b:RowZ W0 base r v N H) (a:H.length+m<=N) :
 Calls prog 257 #[pq r,m] W0 fun e w'=>∃ u,e=.returned (.tuple #[u,.bool true])/\RowZ w' base r v N (H++List.replicate m 0)/\Keep (r :: v.ownBlock.toList) W0 w':=by
 obtain⟨c,d⟩:=b;refine(XR m d (by rw[length_zpad c];exact a)).mono ?_;rintro e w' ⟨u,rfl,h,f,g⟩;refine⟨u,rfl,⟨uq a,?_⟩,g.sub sq⟩
 have:QY N (H++List.replicate m 0)=QY N H:=by
  unfold QY;rw[BN,List.replicate_append_replicate,AE,BD]
  congr 2
  omega
 rw[this,AE,BD];exact f
theorem ZAD {base r N:Nat} {v:Value} {H:List UInt8} (b:RowZ W0 base r v N H) :
 Calls prog 338 #[pq r] W0 fun e w'=>∃ u,e=.returned u/\w'.ownsRow W0.heap.size 5 1 u N (bys (QY N H))/\kz W0 w':=by
 obtain⟨c,d⟩:=b;refine(Qm d).mono ?_;rintro e w' ⟨u,rfl,a,f⟩;exact⟨u,rfl,by rw[length_zpad c] at a;exact a,f⟩
def Qp (N:Nat) (H:List UInt8):List UInt8:=QY (N-4) H++le 4 (KM (QY (N-4) H))
theorem JZ {N:Nat} {H:List UInt8} (a:4<=N) (h:H.length<=N-4):(Qp N H).length=N:=by
 unfold Qp;rw[AE,length_zpad h,length_le];omega
theorem JAR {N:Nat} {H:List UInt8} (c:4<=N) (h:H.length<=N-4):laid (QY N H) ((QY N H).length-4) (le 4 (KM ((QY N H).take ((QY N H).length-4))))=Qp N H:=by
 have b:(QY N H).length=N:=length_zpad Z
 have a:(QY N H).take (N-4)=QY (N-4) H:=by
  unfold QY;rw[DO,AK h,Cw]
  congr 2
  omega
 rw[b,a];unfold laid Qp;rw[a,length_le,Dy Z,Bg]
theorem XBb {base N:Nat} {H:List UInt8} (c:W0.ownsRow base 5 1 u N (bys (QY N H))) (d:4<=N) (h:H.length<=N-4) (g:N<=65536) :
 Calls prog 337 #[u] W0 fun e w'=>e=.returned u/\w'.ownsRow base 5 1 u N (bys (Qp N H))/\Keep u.ownBlock.toList W0 w':=by
 have a:(QY N H).length=N:=length_zpad Z;refine(Yt (base:=base) (v:=u) (QY N H) (w:=W0) (by rw[a];exact c) Z Z).mono ?_;rintro e w' ⟨rfl,b,f⟩;rw[JAR d h,a] at b;exact⟨rfl,b,f⟩
def fields:List (Nat×Nat)->List UInt8
 | []=>[]
 | (k,n) :: l=>le k n++fields l
def widths:List (Nat×Nat)->Nat
 | []=>0
 | (k,_) :: l=>k+widths l
@[simp] theorem length_fields (l:List (Nat×Nat)):(fields l).length=widths l:=by
 induction l with
 | nil=>rfl
 | cons p l ih=>obtain⟨k,n⟩:=p;simp[fields,widths,ih]
theorem QI (l m:List (Nat×Nat)):fields (l++m)=fields l++fields m:=by
 induction l with
 | nil=>rfl
 | cons p l ih=>obtain⟨k,n⟩:=p;simp[fields,ih]
theorem QO (k:Nat) (zs:List Nat):zs.flatMap (le k)=fields (zs.map fun z=>(k,z)):=by
 induction zs with
 | nil=>rfl
 | cons z zs ih=>simp[fields,ih]
theorem QAm (l:List (Nat×Nat)) (k n:Nat) (m:List (Nat×Nat)) (t:List UInt8) (a:n<256 ^ k):num (((fields (l++(k,n) :: m)++t).drop (widths l)).take k)=n:=by
 rw[QI,BN,List.drop_left' (length_fields l)];simp only[fields];rw[BN,Dq (length_le k n),KAQ k n a]
theorem QAL (N:Nat) (l:List (Nat×Nat)):∃ t,Qp N (fields l)=fields l++t:=⟨_,by unfold Qp QY;rw[BN]⟩
def itF (i:PItem):List (Nat×Nat):=[(1,i.k),(1,i.b),(1,i.c),(4,i.v)]
def YQ (is:List PItem):List UInt8:=fields (is.flatMap itF)
theorem Xb (l m:List (Nat×Nat)):widths (l++m)=widths l+widths m:=by
 induction l with
 | nil=>simp[widths]
 | cons p l ih=>obtain⟨k,n⟩:=p;simp[widths,ih,BY]
@[simp] theorem length_itemB (is:List PItem):(YQ is).length=7*is.length:=by
 unfold YQ;rw[length_fields]
 induction is with
 | nil=>rfl
 | cons i is ih=>rw[BE,Xb,ih];simp[itF,widths];omega
theorem XAf (is:List PItem) (i:PItem):YQ (is++[i])=YQ is++[i.k,i.b,i.c].flatMap (le 1)++[i.v].flatMap (le 4):=by
 unfold YQ;rw[BM,QI,DR,BN];simp[itF,fields]
theorem KAO {N:Nat} {H:List UInt8} (h:H.length=N):QY N H=H:=by
 unfold QY;rw[h,C6];simp
theorem XAY (g n c:Nat) (is:List PItem) {w:World} (h:Rd w (some g) (n*4) (is.flatMap itc)) (C:is.length=n) (S:∀ i∈is,i.May) (h6:n<=6) :
 Calls prog 387 #[.slice (some g) n c] w fun e w'=>∃ u,e=.returned (.tuple #[u,zz])/\w'.ownsRow w.heap.size 5 1 u (7*n) (bys (YQ is))/\kz w w':=by
 have t:=ZB C;clear C;have a6:((n:Nat):Int)<=6:=Z
 obtain⟨N,v⟩:=ex (7*n);have D:=ZBi N Z w;have a7:IntKind.i64.wrap (7*(n:Nat):Int)=(N:Nat):=by rw[AI];omega
 rw[<- v];have y:=ZB v;clear v;go_enter func387,ntmps387;go_wp2_with (refine D.mono ?_;clear D;rintro e w1 ⟨r,T,rfl,b,a⟩);go_loopw [6,16] (fun _ i wr=>∃ k:Nat,k<=n/\i=.int .i64 k/\RowZ wr w.heap.size r T N (YQ (is.take k))/\kz w wr) (fun _ i _=>n-(intOf i).toNat)
 case atStart=>exact⟨0,AP _,rfl,b,a⟩
 clear b a;obtain⟨k,hk,rfl,b,a⟩:=hrel;by_cases U:k<n
 . have d:k<is.length:=by rw[ZA t];exact U
   have a8:((k:Nat):Int)<(n:Nat):=Z
   have a9:g<wr.heap.size:=(VI JH (h.keep a) d (j:=0) Z).1;have V:=(VI JH (h.keep a) d (j:=0) Z).2;have X:=(VI JH (h.keep a) d (j:=1) Z).2;have Y:=(VI JH (h.keep a) d (j:=2) Z).2;have a0:=(VI JH (h.keep a) d (j:=3) Z).2;have E:is.take (k+1)=is.take k++[is[k]]:=AO d;have F:(YQ (is.take k)).length=7*k:=by rw[length_itemB,BH];omega
   have z:=S _ (AN d);have A:=fun W=>Vl z W;have G:=z.bounds;generalize is[k]=it at *;obtain⟨l,m,o,p⟩:=it;simp only[itc,Bj,BX,BK] at V X Y a0 G A;have a1:=ZB E;clear z E;obtain⟨b1,b2,b3,b4⟩:=G;have H:=Blk.new wr 178 #[ii l,ii m,ii o,ii p];go_wp2_with fail;refine(A _).mono ?_;rintro e w2 ⟨rfl,f⟩;clear A;have s:=H.kO f;clear H;obtain⟨I,J,K,L⟩:=JE s;have M:=s.lt;go_wp2_with fail;have b:=(b.kO (kq.alloc (.cells #[ii l,ii m,ii o,ii p] 178))).kO f;have q:=JAJ (k:=1) b Z [l,m,o] (by simp;omega) sq (by have:=ZA y;rw[F];simp;omega) #[ii l,ii m,ii o] rfl 3 rfl;have a2:=(a.alloc (.cells #[ii l,ii m,ii o,ii p] 178)).tO f;clear a
   go_wp2_with (
    (refine q.mono ?_)
    clear q;rintro e w3 ⟨rfl,O,P⟩;have Q:=b.x.blk P s (by decide) (by decide);clear f I J K L M s;obtain⟨I,J,K,L⟩:=JE Q;have M:=Q.lt)
   have a3:=a2.trans P (fun x B=>.inr (b.fresh x B));have q:=JAJ (k:=4) O Z [p] (by simp;omega) sq (by have:=ZA y;rw[AE,F];simp[length_le];omega) #[ii p] rfl 1 rfl
   go_wp2_with (
    (refine q.mono ?_)
    clear q;rintro e w4 ⟨rfl,a4,a5⟩)
   go_roundw;case rel=>exact⟨k+1,Z,by go_num,by rw[ZA a1,XAf];exact a4,a3.trans a5 (fun x B=>.inr (O.fresh x B))⟩
   case measure=>simp[intOf];omega
 obtain rfl:n=k:=Z
 go_wp2_with (refine(ZAD b).mono ?_;rintro e w2 ⟨u,rfl,R,f⟩);go_ret2;rw[AK (by rw[ZA t];exact AG _),KAO (by rw[length_itemB,ZA t];exact(ZA y).symm)] at R;exact⟨u,rfl,VC R a.size,a.tO f⟩
structure POp where
 k:Int
 b:Int
 c:Int
 e:Int
 d:List UInt8
def opc (p:Value×POp):List Value:=[.int .i64 p.2.k,.int .i64 p.2.b,.int .i64 p.2.c,.int .i64 p.2.e,p.1]
@[simp] theorem length_opc (p:Value×POp):(opc p).length=5:=rfl
theorem XBD (os:List (Value×POp)) (k:Nat):(os.flatMap opc).drop (k*5)=(os.drop k).flatMap opc:=by
 induction k generalizing os with
 | zero=>simp
 | succ k ih=>
   cases os with
   | nil=>simp
   | cons p os=>rw[BE,DH,<- ih,Cf,CH,BL sq];simp
theorem JBN (os:List (Value×POp)) (i j:Nat) (hi:i<os.length) (a:j<5):(os.flatMap opc)[i*5+j]? = (opc os[i])[j]? := by
 have b:=XBD os i;have c:((os.flatMap opc).drop (i*5))[j]? = (os.flatMap opc)[i*5+j]? := BT;rw[<- c,b,Bt hi,BE,CG (uq a)]
def OpsRd (w:World) (A:Option Addr) (n:Nat) (os:List (Value×POp)):Prop:=Rd w A (n*5) (os.flatMap opc)/\os.length=n
theorem OpsRd.at_ {w:World} {os:List (Value×POp)} (h:OpsRd w A n os) (hi:i<n) (d:i<os.length) :
 ∃ b o,A=some ⟨b,o,none⟩/\b<w.heap.size/\cl w (aq b (o+i*5)) (.int .i64 os[i].2.k)/\cl w (aq b (o+i*5+1)) (.int .i64 os[i].2.b)/\cl w (aq b (o+i*5+2)) (.int .i64 os[i].2.c) /\
   cl w (aq b (o+i*5+3)) (.int .i64 os[i].2.e)/\w.cell? (aq b (o+i*5+4))=some os[i].1:=by
 obtain⟨b,o,rfl,e,a⟩:=h.1.2 Z;have c:=fun j f=>JBN os i j d f;refine⟨b,o,rfl,e,?_,?_,?_,?_,?_⟩
 . have:=a (i*5+0) _ ((c 0 Z).trans rfl);simpa [BY] using this
 . have:=a (i*5+1) _ ((c 1 Z).trans rfl);simpa [BY] using this
 . have:=a (i*5+2) _ ((c 2 Z).trans rfl);simpa [BY] using this
 . have:=a (i*5+3) _ ((c 3 Z).trans rfl);simpa [BY] using this
 have:=a (i*5+4) _ ((c 4 Z).trans rfl);simpa [BY] using this
theorem OpsRd.keepIf {w w':World} {os:List (Value×POp)} {l:List Nat} (h:OpsRd w A n os) (b:Keep l w w') (c:∀ a,A=some a->a.block∉l):OpsRd w' A n os:=⟨h.1.keepIf b c,h.2⟩
theorem OpsRd.keep {w w':World} {os:List (Value×POp)} (h:OpsRd w A n os) (a:kz w w'):OpsRd w' A n os:=⟨h.1.keep a,h.2⟩
theorem OpsRd.of_own {w:World} {base:Nat} {os:List (Value×POp)} (h:w.ownsRow base 95 5 (.slice A n c) n (os.flatMap opc)) (a:os.length=n):OpsRd w A n os:=⟨Rd.of_ownN h,a⟩
structure PSlot where
 v:Value
 o:POp
 is:Bool
def POp.zero:POp:=⟨0,0,0,0,[]⟩
def PSlot.none_:PSlot:=⟨.slice none 0 0,POp.zero,false⟩
def slc (q:PSlot):List Value:=[.int .i64 q.o.k,.int .i64 q.o.b,.int .i64 q.o.c,.int .i64 q.o.e,q.v,.bool q.is]
theorem JK (q:PSlot):(slc q).length=6:=rfl
structure WinIs (w:World) (base x:Nat) (L:Value) (F:List Nat) (next:Nat) (sl:List PSlot):Prop where
 blk:Blk w x 306 #[L,ii next]
 row:w.ownsRow base 313 6 L sl.length (sl.flatMap slc)
 dat:∀ q∈sl,w.ownsRow base 5 1 q.v q.o.d.length (bys q.o.d)
 foot:F=x :: (L.ownBlock.toList++sl.flatMap (fun q=>q.v.ownBlock.toList))
 base:base<=x
 pos:1<=sl.length
 few:sl.length<=16
 zero:∀ q∈sl,q.is=false->q=PSlot.none_
 nb:1<=next/\next<=2000000000
def WinAt (w:World) (base x:Nat) (F:List Nat) (next:Nat) (sl:List PSlot):Prop:=∃ L,WinIs w base x L F next sl
namespace WinIs
variable {w w':World} {base x:Nat} {L:Value} {F l:List Nat} {next:Nat} {sl:List PSlot}
theorem mem (h:WinIs w base x L F next sl) {y:Nat} (a:y∈F):y=x\/y∈L.ownBlock.toList\/∃ q∈sl,y∈q.v.ownBlock.toList:=by
 rw[h.foot] at a;simpa only[AL,AD,Bs] using a
theorem inX (h:WinIs w base x L F next sl):x∈F:=by rw[h.foot];simp
theorem inL (h:WinIs w base x L F next sl):∀ y∈L.ownBlock.toList,y∈F:=fun y a=>by rw[h.foot];exact Ak _ (At _ a)
theorem inQ (h:WinIs w base x L F next sl) {q:PSlot} (a:q∈sl):∀ y∈q.v.ownBlock.toList,y∈F:=fun y b=>by
 rw[h.foot];exact Ak _ (A6 _ (Bs.2 ⟨q,a,b⟩))
theorem keep (h:WinIs w base x L F next sl) (a:Keep l w w') (b:Apart F l):WinIs w' base x L F next sl:=
 ⟨h.blk.keep a (b _ h.inX),KA h.row a fun y c=>b _ (h.inL y (uq c)),fun q d=>KA (h.dat q d) a fun y c=>b _ (h.inQ d y (uq c)),h.foot,h.base,h.pos,h.few,h.zero,h.nb⟩
theorem kO (h:WinIs w base x L F next sl) (a:kz w w'):WinIs w' base x L F next sl:=h.keep a Apart.nil_right
theorem lt (h:WinIs w base x L F next sl):∀ y∈F,y<w.heap.size:=by
 intro y a;rcases h.mem a with rfl | a | ⟨q,hq,a⟩
 . exact h.blk.lt
 . exact(own_mem h.row a).2
 exact(own_mem (h.dat q hq) a).2
theorem ge (h:WinIs w base x L F next sl):∀ y∈F,base<=y:=by
 intro y a;rcases h.mem a with rfl | a | ⟨q,hq,a⟩
 . exact h.base
 . exact(own_mem h.row a).1
 exact(own_mem (h.dat q hq) a).1
theorem xL (h:WinIs w base x L F next sl):x∉L.ownBlock.toList:=fun a=>own_blk_ne h.row h.blk (by decide) (uq a)
theorem xQ (h:WinIs w base x L F next sl) {q:PSlot} (a:q∈sl):x∉q.v.ownBlock.toList:=fun b=>own_blk_ne (h.dat q a) h.blk (by decide) (uq b)
theorem form (h:WinIs w base x L F next sl):∃ g c,L=.slice (some (aq g 0)) sl.length c/\sl.length<=c:=by
 obtain⟨g,c,e,a,_⟩:=YD h.row (by have:=h.pos;omega);exact⟨g,c,e,a⟩
theorem cells (h:WinIs w base x L F next sl):cl w x L/\cl w (aq x 1) (ii next):=⟨uq (h.blk.cell 0),uq (h.blk.cell 1)⟩
end WinIs
namespace WinAt
variable {w w':World} {base x:Nat} {F l:List Nat} {next:Nat} {sl:List PSlot}
theorem keep (h:WinAt w base x F next sl) (a:Keep l w w') (b:Apart F l):WinAt w' base x F next sl:=by obtain⟨L,h⟩:=h;exact⟨L,h.keep a b⟩
theorem kO (h:WinAt w base x F next sl) (a:kz w w'):WinAt w' base x F next sl:=h.keep a Apart.nil_right
theorem lt (h:WinAt w base x F next sl):∀ y∈F,y<w.heap.size:=by obtain⟨L,h⟩:=h;exact h.lt
theorem ge (h:WinAt w base x F next sl):∀ y∈F,base<=y:=by obtain⟨L,h⟩:=h;exact h.ge
end WinAt
structure OHold (w:World) (B:Nat) (F:List Nat) (v:Value) (os:List (Value×POp)):Prop where
 row:w.ownsRow B 95 5 v os.length (os.flatMap opc)
 data:∀ p∈os,w.ownsRow B 5 1 p.1 p.2.d.length (bys p.2.d)
 small:∀ p∈os,p.2.d.length<=64
 off:∀ g∈v.ownBlock.toList,g∉F
 offs:∀ p∈os,∀ g∈p.1.ownBlock.toList,g∉F
namespace OHold
variable {w w':World} {B:Nat} {F F':List Nat} {v:Value} {os:List (Value×POp)}
theorem kO (h:OHold w B F v os) (a:kz w w'):OHold w' B F v os:=⟨QB h.row a,fun p b=>QB (h.data p b) a,h.small,h.off,h.offs⟩
theorem turn (h:OHold w B F v os) {l:List Nat} (d:Keep l w w') (f:∀ x∈l,x∈F) (k:Grow w F F'):OHold w' B F' v os:=by
 have i:∀ {e:TypeId} {u:Value} {n q:Nat} {xs:List Value},w.ownsRow B e q u n xs->(∀ g∈u.ownBlock.toList,g∉F)->∀ g∈u.ownBlock.toList,g∉F':=by
  intro e u n q xs m o g a b;rcases k g b with j | j
  . exact o g a j
  have:=(own_mem m a).2;omega
 exact⟨KA h.row d (fun g a b=>h.off g (uq a) (f g b)),fun p c=>KA (h.data p c) d (fun g a b=>h.offs p c g (uq a) (f g b)),h.small,i h.row h.off,fun p c=>i (h.data p c) (h.offs p c)⟩
theorem rd (h:OHold w B F v os) (b:v=.slice A os.length c):OpsRd w A os.length os:=by
 have a:=h.row;rw[b] at a;exact OpsRd.of_own a rfl
theorem nil (w:World) (B:Nat) (F:List Nat):OHold w B F (.slice none 0 0) []:=⟨AZ _ _ _ _,sq,sq,by simp[Value.ownBlock],sq⟩
end OHold
theorem OHold.snoc {w w':World} {B:Nat} {v d:Value} {os:List (Value×POp)} (h:OHold w B [] v os) (p:Value×POp) (e:w.ownsRow B 5 1 p.1 p.2.d.length (bys p.2.d)) (i:p.2.d.length<=64)
 (j:w'.ownsRow B 95 5 d (os.length+1) (os.flatMap opc++opc p)) (f:Keep v.ownBlock.toList w w'):OHold w' B [] d (os++[p]):=by
 refine⟨?_,?_,?_,sq,sq⟩
 . rw[AE,BM,DR];exact j
 . intro q a
   rcases AD.1 a with a | a
   . exact KA (h.data q a) f (fun g b c=>own_ne (h.data q a) h.row (by decide) b (uq c))
   obtain rfl:=Ag.1 a
   exact KA e f (fun g b c=>own_ne e h.row (by decide) b (uq c))
 intro q a
 rcases AD.1 a with a | a
 . exact h.small q a
 obtain rfl:=Ag.1 a
 exact i
theorem OHold.apart {w:World} {B:Nat} {v:Value} {os:List (Value×POp)} (h:OHold w B [] v os) {F:List Nat} (c:∀ x∈F,x<B):OHold w B F v os:=
 ⟨h.row,h.data,h.small,fun g a b=>by have:=(own_mem h.row a).1;have:=c g b;omega,fun p d g a b=>by have:=(own_mem (h.data p d) a).1;have:=c g b;omega⟩
def put5 (w:World) (g:Nat) (x0 x1 x2 x3 x4:Value):World:=
 ((((w.setCell g x0).setCell (aq g 1) x1).setCell (aq g 2) x2).setCell (aq g 3) x3).setCell (aq g 4) x4
theorem Blk.put5 {w:World} {a b c d e:Value} (h:Blk w g t #[a,b,c,d,e]) (x0 x1 x2 x3 x4:Value):Blk (Go.Proofs.YtfedaknhecbehaaGreat.put5 w g x0 x1 x2 x3 x4) g t #[x0,x1,x2,x3,x4]:=by
 have:=((((h.set 0 x0).set 1 x1).set 2 x2).set 3 x3).set 4 x4;simpa [Go.Proofs.YtfedaknhecbehaaGreat.put5] using this
theorem Keep.put5 (w:World) (g:Nat) (x0 x1 x2 x3 x4:Value):Keep [g] w (Go.Proofs.YtfedaknhecbehaaGreat.put5 w g x0 x1 x2 x3 x4):=
 ((((((Keep.refl [g] w).sc g 0).sc g 1).sc g 2).sc g 3).sc g 4)
theorem XBk {k v s b c e d:Int} (m:Nat) {xs:List UInt8} {w:World} (E:Rd w A n (bys xs)) (Q:n<=140737488355328) (F:k≠8) (G:k≠9) (H:FrMay k v s b c e d xs) :
 Calls prog 152 #[frv k v s b c e d (.slice A n m)] w fun r w'=>∃ u,r=.returned (.tuple #[.agg #[ii k,ii b,ii c,ii e,u],.bool true]) /\
  w'.ownsRow w.heap.size 5 1 u n (bys xs)/\kz w w':=by
 have I:=fun W (j:kz w W)=>KV m xs (E.keep j) Q;have h:=fun W (j:kz w W)=>JAS k v s b c e d m xs (E.keep j);rw[AH H] at h;unfold frv at h;unfold frv;have J:=Blk.new w 211 #[ii k,ii v,ii s,ii b,ii c,ii e,ii d,.slice A n m];have L:=J.alloc (.cells #[zz,zz,zz,zz,zn] 95);have l:=Blk.new (w.alloc (.cells #[ii k,ii v,ii s,ii b,ii c,ii e,ii d,.slice A n m] 211)) 95 #[zz,zz,zz,zz,zn];rw[show (w.alloc (.cells #[ii k,ii v,ii s,ii b,ii c,ii e,ii d,.slice A n m] 211)).heap.size=w.heap.size+1 from sq] at l;have o:kz w ((w.alloc (.cells #[ii k,ii v,ii s,ii b,ii c,ii e,ii d,.slice A n m] 211)).alloc (.cells #[zz,zz,zz,zz,zn] 95)):=(kq.alloc _).alloc _;have M:=h _ o;have e8:(k == 8)=false:=uq F
 have e9:(k == 9)=false:=uq G
 clear h F G H;go_enter func152,ntmps152
 go_wp2_with (
  (refine M.mono ?_)
  clear M;rintro r p ⟨rfl,q⟩;have i:=L.kO q;have N:=l.kO q;have t:=o.tO q;obtain⟨R,S,T,U,V,X,Y,c7⟩:=KB i;have a1:=i.lt)
 have y:kz p p.drew:=kq.drew;obtain⟨d0,d1,d2,d3,d4,d5,d6,d7⟩:=KB (i.kO y);clear R S T U V X Y c7;refine ZT (fun w'=>cl w' w.heap.size (ii k)/\cl w' (aq w.heap.size 3) (ii b)/\cl w' (aq w.heap.size 4) (ii c)/\cl w' (aq w.heap.size 5) (ii e)/\cl w' (aq w.heap.size 7) (.slice A n m)) 11 [[0,1,2,3,4,5,6,7,8,9],[10]] ⟨d0,d3,d4,d5,d7⟩ ?_;simp only[PI];iterate 10 refine wG ?_
 refine JB rq fun K a0=>?_;have O:=I _ (t.tO y)
 go_wp2_with (
  (refine O.mono ?_)
  clear O;rintro r w3 ⟨u,rfl,z,f,_⟩;obtain⟨B,C,rfl,_⟩:=XB z)
 replace f:kz p w3:=y.tO f;obtain⟨f0,f1,f2,f3,f4,f5,f6,f7⟩:=KB (i.kO f);refine a0 _ _ (⟨f0,f3,f4,f5,f7⟩) ?_
 try simp only[Act.put,PU]
 refine VB ?_;have a:=N.kO f;have a2:=a.lt;obtain⟨z0,z1,z2,z3,z4⟩:=ZE a;have q0:=a.frozen 0;have q1:=a.frozen 1;have q2:=a.frozen 2;have q3:=a.frozen 3;have q4:=a.frozen 4;clear I J L l o
 go_wp2
 have P:=a.put5 (.int .i64 k) (.int .i64 b) (.int .i64 c) (.int .i64 e) (.slice B n C);have D:=Keep.put5 w3 (w.heap.size+1) (.int .i64 k) (.int .i64 b) (.int .i64 c) (.int .i64 e) (.slice B n C);unfold put5 at P D;obtain⟨g0,g1,g2,g3,g4⟩:=ZE P;refine Ac (v:=.tuple #[.agg #[ii k,ii b,ii c,ii e,.slice B n C],.bool true]) (by simp[results,results152,go_sem,g0,g1,g2,g3,g4]) rfl ⟨_,rfl,?_,(t.tO f).trans D iq⟩;refine KA (VC z (by have:=t.size;simpa using this)) D (fun g hg hm=>?_);have h1:=(own_mem z (g:=g) (uq hg)).1;have h2:=N.lt;simp at hm h1;omega
theorem YBG (w:World):cr 32 #[.agg #[zz,zz,zz]] w (.tuple #[.pointer none,ii 1]):=by
 have a:=fun W=>VK 0 1 64 W;rw[AU Z] at a;go_enter func32,ntmps32;go_wp2_with (first | (refine(a _).mono ?_;clear a;rintro e w' ⟨rfl,rfl⟩));go_ret2;exact⟨rfl,kq.alloc _⟩
theorem KN {w:World} (h:Blk w g t #[x0,x1,x2,x3,x4]) :
 cl w g x0/\cl w (aq g 1) x1/\cl w (aq g 2) x2/\cl w (aq g 3) x3/\cl w (aq g 4) x4:=
 ⟨uq (h.cell 0),uq (h.cell 1),uq (h.cell 2),uq (h.cell 3),uq (h.cell 4)⟩
theorem QAg (B b a:Nat) (i:1<=B) (j:B<=64) (l:b<=2147483647) (k:1<=a/\a<=2147483647) (w:World) :
 cr 365 #[.agg #[ii B,ii 8,ii 24,ii b,ii a]] w (.bool true):=by
 have d:=fun W=>XAV W B i j;have f:=Blk.new w 338 #[ii B,ii 8,ii 24,ii b,ii a];obtain⟨m,n⟩:=k;have o:((b:Nat):Int)<=2147483647:=Z
 have p:(1:Int)<=(a:Nat):=Z
 have q:((a:Nat):Int)<=2147483647:=Z
 go_enter func365,ntmps365
 go_wp2_with (
  (refine(d _).mono ?_)
  clear d;rintro e r ⟨g,rfl,-,-,h⟩;have c:=f.kO h;obtain⟨s,t,u,v,y⟩:=KN c;have z:=c.lt;clear f c)
 go_ret;exact⟨rfl,(kq.alloc _).tO h⟩
theorem QBA (w:World) :
 cr 365 #[.agg #[zz,zz,zz,zz,zz]] w (.bool false):=by
 have a:=fun W=>YBG W;go_enter func365,ntmps365
 go_wp2_with (
  (refine(a _).mono ?_)
  clear a;rintro e c ⟨rfl,b⟩)
 go_ret;exact⟨rfl,(kq.alloc _).tO b⟩
theorem VBW (w:World) :
 cr 285 #[.agg #[zz,zz,zz,zz,zz]] w (.tuple #[zn,ii 1]):=by
 have a:=fun W=>QBA W;go_enter func285,ntmps285
 go_wp2_with (
  (refine(a _).mono ?_)
  clear a;rintro e c ⟨rfl,b⟩)
 go_ret2;exact⟨rfl,(kq.alloc _).tO b⟩
theorem ZBl {base r:Nat} {v:Value} (h:RowAt W0 base r v (List.replicate 64 0) a) (b:k=1\/k=2\/k=4) (c:a+k<=64) :
 Calls prog 258 #[pq r,k] W0 fun e w'=>e=.returned (.tuple #[zz,.bool true])/\RowAt w' base r v (List.replicate 64 0) (a+k)/\Keep [r] W0 w':=by
 have:=ZY k h b (uq c);rw[CV,Cw,show min k (64-a)=k from Z] at this;have d:num (List.replicate k (0:UInt8))=0:=by rcases b with rfl | rfl | rfl <;> rfl
 rw[d] at this;exact this
theorem XAB {base r N:Nat} {v:Value} (j:Nat) (i:j<5) (b:RowAt w4 base r v bs a) (c:Blk w4 N 338 #[zz,zz,zz,zz,zz]) :
 RowAt (w4.setCell (aq N j) (.int .i64 0)) base r v bs a/\Blk (w4.setCell (aq N j) (.int .i64 0)) N 338 #[zz,zz,zz,zz,zz]/\Keep [N] w4 (w4.setCell (aq N j) (.int .i64 0)):=by
 have d:Keep [N] w4 (w4.setCell (aq N j) (.int .i64 0)):=kq.setCell (.inl sq) _;have g:r≠N:=fun e=>by subst e;exact Blk.ne_ (t:=338) c b.blk (by decide) rfl
 have h:∀ x∈v.ownBlock.toList,x≠N:=fun x f e=>by subst e;exact own_blk_ne b.own c (by decide) (uq f)
 refine⟨⟨b.blk.keep d (uq g),KA b.own d (fun x f=>uq (h x (uq f))),b.base,b.le,b.few⟩,?_,d⟩;have:=c.set j (.int .i64 0);obtain rfl | rfl | rfl | rfl | rfl:j=0\/j=1\/j=2\/j=3\/j=4:=Z
 all_goals simpa using this
theorem ZAk {base r N:Nat} {v:Value} {l:List Nat} (c:RowAt w3 base r v bs a) (d:Keep l w3 w4) (e:∀ x∈l,x∈r :: v.ownBlock.toList) (b:Blk w3 N 338 #[zz,zz,zz,zz,zz]) :
 Blk w4 N 338 #[zz,zz,zz,zz,zz]:=by
 refine b.keep d (fun f=>?_);rcases AL.1 (e _ f) with rfl | hx
 . exact Blk.ne_ (t:=338) b c.blk (by decide) rfl
 exact own_blk_ne c.own b (by decide) (uq hx)
theorem YAE (c:Nat) {w:World} (ha:Rd w A 64 (bys (List.replicate 64 0))) :
 cr 364 #[.slice A 64 c] w (.tuple #[.agg #[zz,zz,zz,zz,zz],ii 2]):=by
 have E:=fun W (hk:kz w W)=>QZ c _ (ha.keep hk) Z;have F:=fun W=>VBW W;have G:=Blk.new w 338 #[zz,zz,zz,zz,zz];go_enter func364,ntmps364
 go_wp2_with (
  (refine(E _ (kq.alloc _)).mono ?_)
  clear E;rintro e w2 ⟨r,v,rfl,m,t⟩;have H:=G.kO t;clear G)
 have I:kz w w2:=(kq.alloc _).tO t;have b:=XR 2 m sq
 go_wp2_with (
  (refine b.mono ?_)
  clear b;rintro e w3 ⟨ut,rfl,-,n,u⟩)
 have J:=ZAk m u sq H;have K:kz w w3:=I.trans u (fun x d=>.inr (AB sq (m.fresh x (by simp at d;simp[d]))));clear m H I t u;have b:=ZBl (a:=2) (k:=1) n Z Z
 go_wp2_with (
  (refine b.mono ?_)
  clear b;rintro e w4 ⟨rfl,L,M⟩;have g:=ZAk n M sq J;have q4:=g.frozen 0;obtain⟨x0,x1,x2,x3,x4⟩:=KN g;have ae:=g.lt;obtain⟨o,N,a6⟩:=XAB 0 Z L g;have O:=(K.trans M (fun x d=>.inr (AB sq (n.fresh x (by simp at d;simp[d]))))).trans a6 iq
  skip)
 clear q4 x0 x1 x2 x3 x4 n J K L g;have b:=ZBl (a:=3) (k:=1) o Z Z
 go_wp2_with (
  (refine b.mono ?_)
  clear b;rintro e w5 ⟨rfl,P,Q⟩;have h:=ZAk o Q sq N;have q5:=h.frozen 1;obtain⟨x0,x1,x2,x3,x4⟩:=KN h;have af:=h.lt;obtain⟨p,R,a7⟩:=XAB 1 Z P h;have S:=(O.trans Q (fun x d=>.inr (AB sq (o.fresh x (by simp at d;simp[d]))))).trans a7 iq
  skip)
 clear q5 x0 x1 x2 x3 x4 o N O P h;have b:=ZBl (a:=4) (k:=1) p Z Z
 go_wp2_with (
  (refine b.mono ?_)
  clear b;rintro e w6 ⟨rfl,T,U⟩;have i:=ZAk p U sq R;have q6:=i.frozen 2;obtain⟨x0,x1,x2,x3,x4⟩:=KN i;have ag:=i.lt;obtain⟨q,V,a8⟩:=XAB 2 Z T i;have X:=(S.trans U (fun x d=>.inr (AB sq (p.fresh x (by simp at d;simp[d]))))).trans a8 iq
  skip)
 clear q6 x0 x1 x2 x3 x4 p R S T i;have b:=ZBl (a:=5) (k:=4) q Z Z
 go_wp2_with (
  (refine b.mono ?_)
  clear b;rintro e w7 ⟨rfl,Y,a0⟩;have j:=ZAk q a0 sq V;have q7:=j.frozen 3;obtain⟨x0,x1,x2,x3,x4⟩:=KN j;have ah:=j.lt;obtain⟨s,a1,a9⟩:=XAB 3 Z Y j;have a2:=(X.trans a0 (fun x d=>.inr (AB sq (q.fresh x (by simp at d;simp[d]))))).trans a9 iq
  skip)
 clear q7 x0 x1 x2 x3 x4 q V X Y j;have b:=ZBl (a:=9) (k:=4) s Z Z
 go_wp2_with (
  (refine b.mono ?_)
  clear b;rintro e w8 ⟨rfl,a3,a4⟩;have l:=ZAk s a4 sq a1;have q8:=l.frozen 4;obtain⟨x0,x1,x2,x3,x4⟩:=KN l;have ai:=l.lt;obtain⟨aa,a5,ab⟩:=XAB 4 Z a3 l;have ac:=(a2.trans a4 (fun x d=>.inr (AB sq (s.fresh x (by simp at d;simp[d]))))).trans ab iq;obtain⟨y0,y1,y2,y3,y4⟩:=KN a5)
 clear q8 x0 x1 x2 x3 x4 s a1 a2 a3 l
 go_wp2_with (
  (refine(F _).mono ?_)
  clear F;rintro e w9 ⟨rfl,y⟩;have f:=a5.kO y;obtain⟨x0,x1,x2,x3,x4⟩:=KN f;have f0:=f.frozen 0;have f1:=f.frozen 1;have f2:=f.frozen 2;have f3:=f.frozen 3;have f4:=f.frozen 4;have aj:=f.lt)
 have z:=XAB 0 Z (aa.kO y) f;have B:=XAB 1 Z z.1 z.2.1;have C:=XAB 2 Z B.1 B.2.1;have D:=XAB 3 Z C.1 C.2.1;have z4:=XAB 4 Z D.1 D.2.1;have ad:=(((((ac.tO y).trans z.2.2 iq).trans B.2.2 iq).trans C.2.2 iq).trans D.2.2 iq).trans z4.2.2 iq;obtain⟨y0,y1,y2,y3,y4⟩:=KN z4.2.1;refine Ac (v:=.tuple #[.agg #[zz,zz,zz,zz,zz],ii 2]) (by simp[results,results364,go_sem,y0,y1,y2,y3,y4]) rfl ?_;exact⟨rfl,ad⟩
theorem JBl {N:Nat} (j:Nat) (b:j<5) (a:Blk w4 N 338 #[zz,zz,zz,zz,zz]) :
 Blk (w4.setCell (aq N j) (.int .i64 0)) N 338 #[zz,zz,zz,zz,zz]/\Keep [N] w4 (w4.setCell (aq N j) (.int .i64 0)):=by
 refine⟨?_,kq.setCell (.inl sq) _⟩;have:=a.set j (.int .i64 0);obtain rfl | rfl | rfl | rfl | rfl:j=0\/j=1\/j=2\/j=3\/j=4:=Z
 all_goals simpa using this
theorem JAk {B:Option Addr} (c d:Nat) {w:World} (q:Rd w A 64 (bys (List.replicate 64 0))) (r:Rd w B 64 (bys (List.replicate 64 0))) :
 cr 284 #[.slice A 64 c,.slice B 64 d] w (.tuple #[.agg #[zz,zz,zz,zz,zz],zz,ii 2]):=by
 have f:=fun W (b:kz w W)=>YAE c (q.keep b);have g:=fun W (b:kz w W)=>YAE d (r.keep b);have s:=Blk.new w 338 #[zz,zz,zz,zz,zz];go_enter func284,ntmps284
 go_wp2_with (
  (refine(f _ (kq.alloc _)).mono ?_)
  clear f;rintro e t ⟨rfl,h⟩)
 have i:kz w t:=(kq.alloc _).tO h;have j:=g _ (i.alloc (.cells #[zz,zz,zz,zz,zz] 338));clear g;have u:=s.kO h
 go_wp2_with (
  (refine j.mono ?_)
  clear j;rintro e w3 ⟨rfl,k⟩;have y:=(u.kO (kq.alloc (.cells #[zz,zz,zz,zz,zz] 338))).kO k;have a:=y.kO (kq.alloc (.cells #[zz,zz,zz,zz,zz] 338));obtain⟨x0,x1,x2,x3,x4⟩:=KN a;have H:=a.frozen 0;have I:=a.frozen 1;have J:=a.frozen 2;have K:=a.frozen 3;have L:=a.frozen 4;have M:=a.lt)
 have l:=JBl 0 Z a;have m:=JBl 1 Z l.1;have n:=JBl 2 Z m.1;have o:=JBl 3 Z n.1;have p:=JBl 4 Z o.1;have z:=((((((((i.alloc _).tO k).alloc _)).trans l.2 iq).trans m.2 iq).trans n.2 iq).trans o.2 iq).trans p.2 iq;obtain⟨C,D,E,F,G⟩:=KN p.1;refine Ac (v:=.tuple #[.agg #[zz,zz,zz,zz,zz],zz,ii 2]) (by simp[results,results284,go_sem,C,D,E,F,G]) rfl ?_;exact⟨rfl,z⟩
theorem YAR {base r:Nat} {v:Value} {t:List UInt8} (l m:List (Nat×Nat)) (f:RowAt W0 base r v bs a) (b:bs=fields (l++(k,n) :: m)++t) (c:a=widths l) (g:k=1\/k=2\/k=4) (i:n<256 ^ k) :
 Calls prog 258 #[pq r,k] W0 fun e w'=>e=.returned (.tuple #[n,.bool true])/\RowAt w' base r v bs (a+k)/\Keep [r] W0 w':=by
 have d:=QAm l k n m t i;rw[<- b,<- c] at d;have j:a+k<=bs.length:=by rw[b,QI,c];simp[fields]
 refine(ZY k f g j).mono ?_;rw[d];exact fun _ _ h=>h
theorem Yi {base r N:Nat} {v:Value} (j:Nat) (x:Value) (b:RowAt w4 base r v bs a) (e:N<base) (c:Blk w4 N ty cs) :
 RowAt (w4.setCell (aq N j) x) base r v bs a/\Blk (w4.setCell (aq N j) x) N ty (cs.setIfInBounds j x)/\Keep [N] w4 (w4.setCell (aq N j) x):=
 ⟨⟨b.blk.far (p:=⟨N,j,none⟩) (by have:=b.base;simp;omega) x,own_set b.own (fun d=>by have:=(own_mem b.own d).1;omega) x,b.base,b.le,b.few⟩,c.set j x,(Keep.refl [N] _).sc N j⟩
theorem QAB {base r N:Nat} {v:Value} {l:List Nat} (b:RowAt w3 base r v bs a) (c:Keep l w3 w4) (d:∀ x∈l,x∈r :: v.ownBlock.toList) (g:N<base) (e:Blk w3 N ty cs):Blk w4 N ty cs:=
 e.keep c (fun f=>by have:=b.fresh N (d N f);omega)
def QBb (B id mount:Nat):List UInt8:=Qp 64 (fields [(1,75),(1,83),(1,B),(1,8),(1,24),(4,id),(4,mount)])
@[simp] theorem length_supB (B a b:Nat):(QBb B a b).length=64:=JZ Z (by simp[widths])
theorem ZBZ (B b a:Nat) (J:1<=B) (K:B<=64) (L:b<=2147483647) (M:1<=a/\a<=2147483647) (w:World) :
 Calls prog 285 #[.agg #[ii B,ii 8,ii 24,ii b,ii a]] w fun e w'=>∃ u,e=.returned (.tuple #[u,zz])/\w'.ownsRow w.heap.size 5 1 u 64 (bys (QBb B b a))/\kz w w':=by
 have q:=fun W=>QAg B b a J K L M W;have s:=Blk.new w 338 #[ii B,ii 8,ii 24,ii b,ii a];go_enter func285,ntmps285
 go_wp2_with (
  (refine(q _).mono ?_)
  clear q;rintro e t ⟨rfl,v⟩;have y:=s.kO v;clear s)
 have N:kz w t:=(kq.alloc _).tO v;have z:=ZBi 64 Z t
 go_wp2_with (
  (refine z.mono ?_)
  clear z;rintro e w4 ⟨r,T,rfl,f,g⟩;have h:=y.kO g;obtain⟨i,j,l,m,n⟩:=KN h;have o:=h.lt)
 have c:=JAJ (k:=1) f Z [75,83,B,8,24] (by simp;omega) sq sq #[ii 75,ii 83,ii B,ii 8,ii 24] rfl 5 rfl
 go_wp2_with (
  (refine c.mono ?_)
  clear c;rintro e U ⟨rfl,A,C⟩;have D:=g.trans C (fun x d=>.inr (f.fresh x d));clear i j l m n o h;have E:=y.kO D;obtain⟨i,j,l,m,n⟩:=KN E;have o:=E.lt;clear f C g)
 have c:=JAJ (k:=4) A Z [b,a] (by simp;omega) sq sq #[ii b,ii a] rfl 2 rfl
 go_wp2_with (
  (refine c.mono ?_)
  clear c;rintro e V ⟨rfl,F,O⟩;have P:=D.trans O (fun x d=>.inr (A.fresh x d));clear i j l m n o)
 rw[Am,QO,QO,<- QI] at F;have G:=ZAD F;go_wp2_with (refine G.mono ?_;clear G;rintro e X ⟨u,rfl,H,Q⟩);have I:=XBb H Z (by simp[widths]) Z;go_wp2_with (refine I.mono ?_;clear I;rintro e Y ⟨rfl,R,S⟩);go_ret2;have p:=N.tO P;exact⟨u,rfl,VC R p.size,(p.tO Q).trans S (fun x d=>.inr (AB p.size (own_mem H d).1))⟩
theorem JAn (N:Nat) (H:List UInt8):laid (List.replicate N 0) 0 H=QY N H:=by
 unfold laid QY;rw[List.take_zero,Am,BB,CV]
theorem JBG {N:Nat} {H:List UInt8} (b:4<=N) (h:H.length<=N-4):sealed N H=Qp N H:=by
 have a:=JAR b h;have c:(QY N H).length=N:=length_zpad Z;rw[c] at a;unfold sealed;rw[JAn,a]
def XBA (seg mount lsn prev:Nat):List (Nat×Nat):=[(1,75),(1,72),(1,seg),(4,mount),(4,lsn),(4,prev)]
def Js (seg mount lsn prev:Nat):List UInt8:=Qp 64 (fields (XBA seg mount lsn prev))
theorem QBJ (a b c d:Nat):QAP a b c d=fields (XBA a b c d):=by simp[QAP,XBA,fields]
theorem ZAK (a b c d:Nat):(Js a b c d).length=64:=JZ Z (by simp[XBA,widths])
theorem XAH (a b c d:Nat):sealed 64 (QAP a b c d)=Js a b c d:=by
 rw[JBG Z (by rw[XZ];omega),QBJ];rfl
theorem YAd (n lo hi:Int) (w:World) (h:n<lo):cq 431 #[ii n,ii lo,ii hi] w (.bool false):=by
 have a:¬ lo<=n:=Z
 go_enter func431,ntmps431
 go_wp2
 go_ret;exact⟨rfl,rfl⟩
theorem YBW (w:World) :
 cr 385 #[.agg #[zz,zz,zz,zz]] w (.bool false):=by
 have a:=fun W=>Vb 0 0 31 W ⟨Z,Z⟩;have b:=fun W=>YAd 0 1 2147483647 W Z;go_enter func385,ntmps385;go_wp2_with (first | (refine(a _).mono ?_;clear a;rintro e w' ⟨rfl,rfl⟩) | (refine(b _).mono ?_;clear b;rintro e w' ⟨rfl,rfl⟩));go_ret;exact⟨rfl,kq.alloc _⟩
theorem QBO (w:World) :
 cr 329 #[.agg #[zz,zz,zz,zz]] w (.tuple #[zn,ii 1]):=by
 have a:=fun W=>YBW W;go_enter func329,ntmps329
 go_wp2_with (
  (refine(a _).mono ?_)
  clear a;rintro e c ⟨rfl,b⟩)
 go_ret2;exact⟨rfl,(kq.alloc _).tO b⟩
theorem ZAW (c:Nat) {w:World} (Q:Rd w A 64 (bys (List.replicate 64 0))) :
 cr 425 #[.slice A 64 c] w (.tuple #[.agg #[zz,zz,zz,zz],ii 2]):=by
 obtain⟨bs,q⟩:∃ bs:List UInt8,bs=List.replicate 64 0:=⟨_,rfl⟩;have R:bs.length=64:=by rw[q];rfl
 obtain⟨t,S⟩:∃ t,bs=fields [(1,0),(1,0),(1,0),(4,0),(4,0),(4,0)]++t:=⟨List.replicate 49 0,by rw[q];rfl⟩;have T:=fun W=>QBO W;rw[<- q] at Q;clear q;have U:=fun W (hk:kz w W)=>QZ c bs (Q.keep hk) Z;have V:=Blk.new w 383 #[zz,zz,zz,zz];have ae:=ZB R;have s:=ZB S;clear R S;go_enter func425,ntmps425
 go_wp2_with (
  (refine(U _ (kq.alloc _)).mono ?_)
  clear U;rintro e w2 ⟨r,v,rfl,u,K⟩;have X:=V.kO K;clear V)
 have Y:kz w w2:=(kq.alloc _).tO K;have d:w.heap.size<(w.alloc (.cells #[zz,zz,zz,zz] 383)).heap.size:=sq
 generalize (w.alloc (.cells #[zz,zz,zz,zz] 383)).heap.size=base at *;have a:=XR 2 u (by rw[ZA ae];omega)
 go_wp2_with (
  (refine a.mono ?_)
  clear a;rintro e w3 ⟨ut,rfl,-,y,L⟩)
 have a0:=QAB u L sq d X;have a1:kz w w3:=Y.trans L (fun x b=>.inr (by have:=u.fresh x (by simp at b;simp[b]);omega));clear u X Y K L;have a:=YAR (k:=1) (n:=0) [(1,0),(1,0)] [(4,0),(4,0),(4,0)] y (ZA s) rfl Z Z
 go_wp2_with (
  (refine a.mono ?_)
  clear a;rintro e w4 ⟨rfl,a2,a3⟩;have l:=QAB y a3 sq d a0;have q4:=l.frozen 0;obtain⟨x0,x1,x2,x3⟩:=JE l;have aj:=l.lt;have z:=Yi 0 (.int .i64 (0:Nat)) a2 d l;have a4:=(a1.trans a3 (fun x b=>.inr (by have:=y.fresh x (by simp at b;simp[b]);omega))).trans z.2.2 iq;have M:Blk (w4.setCell w.heap.size (.int .i64 (0:Nat))) w.heap.size 383 #[zz,zz,zz,zz]:=z.2.1;have B:=z.1;obtain⟨f,g,h,i⟩:=JE M)
 clear q4 x0 x1 x2 x3 y a0 a1 a2 l z f g h i;have a:=YAR (k:=4) (n:=0) [(1,0),(1,0),(1,0)] [(4,0),(4,0)] B (ZA s) rfl Z Z
 go_wp2_with (
  (refine a.mono ?_)
  clear a;rintro e w5 ⟨rfl,a5,a6⟩;have m:=QAB B a6 sq d M;have q5:=m.frozen 1;obtain⟨x0,x1,x2,x3⟩:=JE m;have ak:=m.lt;have C:=Yi 1 (.int .i64 (0:Nat)) a5 d m;have a7:=(a4.trans a6 (fun x b=>.inr (by have:=B.fresh x (by simp at b;simp[b]);omega))).trans C.2.2 iq;have N:Blk (w5.setCell (aq w.heap.size 1) (.int .i64 (0:Nat))) w.heap.size 383 #[zz,zz,zz,zz]:=C.2.1;have D:=C.1;obtain⟨f,g,h,i⟩:=JE N)
 clear q5 x0 x1 x2 x3 B M a4 a5 m C f g h i;have a:=YAR (k:=4) (n:=0) [(1,0),(1,0),(1,0),(4,0)] [(4,0)] D (ZA s) rfl Z Z
 go_wp2_with (
  (refine a.mono ?_)
  clear a;rintro e w6 ⟨rfl,a8,a9⟩;have o:=QAB D a9 sq d N;have q6:=o.frozen 2;obtain⟨x0,x1,x2,x3⟩:=JE o;have al:=o.lt;have E:=Yi 2 (.int .i64 (0:Nat)) a8 d o;have aa:=(a7.trans a9 (fun x b=>.inr (by have:=D.fresh x (by simp at b;simp[b]);omega))).trans E.2.2 iq;have O:Blk (w6.setCell (aq w.heap.size 2) (.int .i64 (0:Nat))) w.heap.size 383 #[zz,zz,zz,zz]:=E.2.1;have F:=E.1;obtain⟨f,g,h,i⟩:=JE O)
 clear q6 x0 x1 x2 x3 D N a7 a8 o E f g h i;have a:=YAR (k:=4) (n:=0) [(1,0),(1,0),(1,0),(4,0),(4,0)] [] F (ZA s) rfl Z Z
 go_wp2_with (
  (refine a.mono ?_)
  clear a;rintro e w7 ⟨rfl,ab,ac⟩;have p:=QAB F ac sq d O;have q7:=p.frozen 3;obtain⟨x0,x1,x2,x3⟩:=JE p;have am:=p.lt;have G:=Yi 3 (.int .i64 (0:Nat)) ab d p;have af:=(aa.trans ac (fun x b=>.inr (by have:=F.fresh x (by simp at b;simp[b]);omega))).trans G.2.2 iq;have ad:Blk (w7.setCell (aq w.heap.size 3) (.int .i64 (0:Nat))) w.heap.size 383 #[zz,zz,zz,zz]:=G.2.1;have ag:=G.1;obtain⟨f,g,h,i⟩:=JE ad)
 clear q7 x0 x1 x2 x3 F O aa ab p G
 go_wp2_with (
  (refine(T _).mono ?_)
  clear T;rintro e w9 ⟨rfl,P⟩;have ah:=af.tO P;have j:=ad.kO P;obtain⟨x0,x1,x2,x3⟩:=JE j;have f0:=j.frozen 0;have f1:=j.frozen 1;have f2:=j.frozen 2;have f3:=j.frozen 3;have an:=j.lt)
 have H:=Yi 0 (.int .i64 0) (ag.kO P) d j;have I:=Yi 1 (.int .i64 0) H.1 d H.2.1;have J:=Yi 2 (.int .i64 0) I.1 d I.2.1;have z3:=Yi 3 (.int .i64 0) J.1 d J.2.1;have ai:=(((ah.trans H.2.2 iq).trans I.2.2 iq).trans J.2.2 iq).trans z3.2.2 iq;have f:=H.2.1.cell 0;have g:=I.2.1.cell 1;have h:=J.2.1.cell 2;have i:=z3.2.1.cell 3;simp at f g h i;refine Ac (v:=.tuple #[.agg #[zz,zz,zz,zz],ii 2]) (by simp[results,results425,go_sem,f,g,h,i]) rfl ?_;exact⟨rfl,ai⟩
theorem VBI (a b d f:Nat) (h1:a<=31) (h2:1<=b/\b<=2147483647) (h3:1<=d/\d<=2147483647) (h4:f<=4294967295) (c:Nat) {w:World} (V:Rd w A 64 (bys (Js a b d f))) :
 cr 425 #[.slice A 64 c] w (.tuple #[.agg #[ii a,ii b,ii d,ii f],zz]):=by
 have X:=ZAK a b d f;obtain⟨t,Y⟩:∃ t,Js a b d f=fields [(1,75),(1,72),(1,a),(4,b),(4,d),(4,f)]++t:=QAL 64 _;have O:=fun W=>YAa a b d f h1 h2 h3 h4 W;simp only[XAH] at O;generalize Js a b d f=bs at *;have a0:=fun W (hk:kz w W)=>QZ c bs (V.keep hk) Z;have a1:=Blk.new w 383 #[zz,zz,zz,zz];have ak:=ZB X;have B:=ZB Y;clear X Y;go_enter func425,ntmps425
 go_wp2_with (
  (refine(a0 _ (kq.alloc _)).mono ?_)
  clear a0;rintro e w2 ⟨r,v,rfl,C,P⟩;have a2:=a1.kO P;clear a1)
 have a3:kz w w2:=(kq.alloc _).tO P;have i:w.heap.size<(w.alloc (.cells #[zz,zz,zz,zz] 383)).heap.size:=sq
 generalize (w.alloc (.cells #[zz,zz,zz,zz] 383)).heap.size=base at *;have g:=XR 2 C (by rw[ZA ak];omega)
 go_wp2_with (
  (refine g.mono ?_)
  clear g;rintro e w3 ⟨ut,rfl,-,D,Q⟩)
 have a4:=QAB C Q sq i a2;have a5:kz w w3:=a3.trans Q (fun x h=>.inr (by have:=C.fresh x (by simp at h;simp[h]);omega));clear C a2 a3 P Q;have g:=YAR (k:=1) (n:=a) [(1,75),(1,72)] [(4,b),(4,d),(4,f)] D (ZA B) rfl Z Z
 go_wp2_with (
  (refine g.mono ?_)
  clear g;rintro e w4 ⟨rfl,a6,a7⟩;have q:=QAB D a7 sq i a4;have q4:=q.frozen 0;obtain⟨x0,x1,x2,x3⟩:=JE q;have ao:=q.lt;have E:=Yi 0 (.int .i64 (a:Nat)) a6 i q;have a8:=(a5.trans a7 (fun x h=>.inr (by have:=D.fresh x (by simp at h;simp[h]);omega))).trans E.2.2 iq;have R:Blk (w4.setCell w.heap.size (.int .i64 (a:Nat))) w.heap.size 383 #[ii a,zz,zz,zz]:=E.2.1;have F:=E.1;obtain⟨j,l,m,o⟩:=JE R)
 clear q4 x0 x1 x2 x3 D a4 a5 a6 q E j l m o;have g:=YAR (k:=4) (n:=b) [(1,75),(1,72),(1,a)] [(4,d),(4,f)] F (ZA B) rfl Z Z
 go_wp2_with (
  (refine g.mono ?_)
  clear g;rintro e w5 ⟨rfl,a9,aa⟩;have s:=QAB F aa sq i R;have q5:=s.frozen 1;obtain⟨x0,x1,x2,x3⟩:=JE s;have ap:=s.lt;have G:=Yi 1 (.int .i64 (b:Nat)) a9 i s;have ab:=(a8.trans aa (fun x h=>.inr (by have:=F.fresh x (by simp at h;simp[h]);omega))).trans G.2.2 iq;have S:Blk (w5.setCell (aq w.heap.size 1) (.int .i64 (b:Nat))) w.heap.size 383 #[ii a,ii b,zz,zz]:=G.2.1;have H:=G.1;obtain⟨j,l,m,o⟩:=JE S)
 clear q5 x0 x1 x2 x3 F R a8 a9 s G j l m o;have g:=YAR (k:=4) (n:=d) [(1,75),(1,72),(1,a),(4,b)] [(4,f)] H (ZA B) rfl Z Z
 go_wp2_with (
  (refine g.mono ?_)
  clear g;rintro e w6 ⟨rfl,ac,ad⟩;have y:=QAB H ad sq i S;have q6:=y.frozen 2;obtain⟨x0,x1,x2,x3⟩:=JE y;have ar:=y.lt;have I:=Yi 2 (.int .i64 (d:Nat)) ac i y;have ae:=(ab.trans ad (fun x h=>.inr (by have:=H.fresh x (by simp at h;simp[h]);omega))).trans I.2.2 iq;have T:Blk (w6.setCell (aq w.heap.size 2) (.int .i64 (d:Nat))) w.heap.size 383 #[ii a,ii b,ii d,zz]:=I.2.1;have J:=I.1;obtain⟨j,l,m,o⟩:=JE T)
 clear q6 x0 x1 x2 x3 H S ab ac y I j l m o;have g:=YAR (k:=4) (n:=f) [(1,75),(1,72),(1,a),(4,b),(4,d)] [] J (ZA B) rfl Z Z
 go_wp2_with (
  (refine g.mono ?_)
  clear g;rintro e w7 ⟨rfl,af,ag⟩;have z:=QAB J ag sq i T;have q7:=z.frozen 3;obtain⟨x0,x1,x2,x3⟩:=JE z;have au:=z.lt;have K:=Yi 3 (.int .i64 (f:Nat)) af i z;have al:=(ae.trans ag (fun x h=>.inr (by have:=J.fresh x (by simp at h;simp[h]);omega))).trans K.2.2 iq;have ah:Blk (w7.setCell (aq w.heap.size 3) (.int .i64 (f:Nat))) w.heap.size 383 #[ii a,ii b,ii d,ii f]:=K.2.1;have am:=K.1;obtain⟨j,l,m,o⟩:=JE ah)
 clear q7 x0 x1 x2 x3 J T ae af z K
 go_wp2_with (
  (refine(O _).mono ?_)
  clear O;rintro e w9 ⟨u,rfl,hu,U⟩;obtain⟨av,uc,rfl,_⟩:=XB hu;have ai:=al.tO U;have p:=ah.kO U;obtain⟨x0,x1,x2,x3⟩:=JE p;have f0:=p.frozen 0;have f1:=p.frozen 1;have f2:=p.frozen 2;have f3:=p.frozen 3;have aw:=p.lt;have aj:=QN uc c bs bs (Rd.of_own hu) (V.keep ai))
 go_wp2_with (refine aj.mono ?_;clear aj;rintro e w' ⟨rfl,rfl⟩);have L:=Yi 0 (.int .i64 (a:Nat)) (am.kO U) i p;have M:=Yi 1 (.int .i64 (b:Nat)) L.1 i L.2.1;have N:=Yi 2 (.int .i64 (d:Nat)) M.1 i M.2.1;have z3:=Yi 3 (.int .i64 (f:Nat)) N.1 i N.2.1;have an:=(((ai.trans L.2.2 iq).trans M.2.2 iq).trans N.2.2 iq).trans z3.2.2 iq;have j:=L.2.1.cell 0;have l:=M.2.1.cell 1;have m:=N.2.1.cell 2;have o:=z3.2.1.cell 3;simp at j l m o;refine Ac (v:=.tuple #[.agg #[ii a,ii b,ii d,ii f],zz]) (by simp[results,results425,go_sem,j,l,m,o]) rfl ?_;exact⟨rfl,an⟩