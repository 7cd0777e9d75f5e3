/- Lemmas of the proof, with their conditions. -/
import Derived.Test.YtfedaknhecbehaaGreatL07
import Derived.Test.YtfedaknhecbehaaGreatL08
namespace Go.Proofs.YtfedaknhecbehaaGreat
open Tryz Go.RowKit
variable {A:Option Addr} {n i c g a k m:Nat} {W0 w4 w3:World} {u x0 x1 x2 x3 x4:Value} {t ty:TypeId} {cs:Array Value} {bs:List UInt8} {ls:List (Value×List UInt8)}
set_option linter.all false
set_option maxHeartbeats 4000000
set_option maxRecDepth 20000
structure POp where
 k:Int
 b:Int
 c:Int
 e:Int
 d:List UInt8
def opc (p:Value×POp):List Value:=[.int .i64 p.2.k,.int .i64 p.2.b,.int .i64 p.2.c,.int .i64 p.2.e,p.1]
@[simp] theorem length_opc (p:Value×POp):(opc p).length=5:=rfl
theorem XAw (os:List (Value×POp)) (k:Nat):(os.flatMap opc).drop (k*5)=(os.drop k).flatMap opc:=by
 induction k generalizing os with
 | zero=>simp
 | succ k ih=>
   cases os with
   | nil=>simp
   | cons p os=>rw[At,DG,<- ih,Ch,CJ,BM sq];simp
theorem KBO (os:List (Value×POp)) (i j:Nat) (hi:i<os.length) (a:j<5):(os.flatMap opc)[i*5+j]? = (opc os[i])[j]? := by
 have b:=XAw os i;have c:((os.flatMap opc).drop (i*5))[j]? = (os.flatMap opc)[i*5+j]? := BW;rw[<- c,b,BY hi,At,B5 (uq a)]
theorem YAc (p:Value×POp) (h:p.1.oneCell'=true):∀ u∈opc p,u.oneCell'=true:=by
 intro u a;simp only[opc,AM,C6,DW] at a;rcases a with rfl | rfl | rfl | rfl | rfl <;> first | rfl | exact h
theorem elemOps:ElemN prog 110 95 (.agg #[zz,zz,zz,zz,zn]) 5 56:=ElemN.of underlying110 (by kernel_rfl) rfl Z
def OpsRd (w:World) (A:Option Addr) (n:Nat) (os:List (Value×POp)):Prop:=Rd w A (n*5) (os.flatMap opc)/\os.length=n
theorem OpsRd.at_ {w:World} {os:List (Value×POp)} (h:OpsRd w A n os) (hi:i<n) (d:i<os.length) :
 ∃ b o,A=some ⟨b,o,none⟩/\b<w.heap.size/\cl w (aq b (o+i*5)) (.int .i64 os[i].2.k)/\cl w (aq b (o+i*5+1)) (.int .i64 os[i].2.b)/\cl w (aq b (o+i*5+2)) (.int .i64 os[i].2.c) /\
   cl w (aq b (o+i*5+3)) (.int .i64 os[i].2.e)/\w.cell? (aq b (o+i*5+4))=some os[i].1:=by
 obtain⟨b,o,rfl,e,a⟩:=h.1.2 Z;have c:=fun j f=>KBO os i j d f;refine⟨b,o,rfl,e,?_,?_,?_,?_,?_⟩
 . have:=a (i*5+0) _ ((c 0 Z).trans rfl);simpa [Bf] using this
 . have:=a (i*5+1) _ ((c 1 Z).trans rfl);simpa [Bf] using this
 . have:=a (i*5+2) _ ((c 2 Z).trans rfl);simpa [Bf] using this
 . have:=a (i*5+3) _ ((c 3 Z).trans rfl);simpa [Bf] using this
 have:=a (i*5+4) _ ((c 4 Z).trans rfl);simpa [Bf] using this
theorem OpsRd.keepIf {w w':World} {os:List (Value×POp)} {l:List Nat} (h:OpsRd w A n os) (b:Keep l w w') (c:∀ a,A=some a->a.block∉l):OpsRd w' A n os:=⟨h.1.keepIf b c,h.2⟩
theorem OpsRd.keep {w w':World} {os:List (Value×POp)} (h:OpsRd w A n os) (a:kz w w'):OpsRd w' A n os:=⟨h.1.keep a,h.2⟩
theorem OpsRd.of_own {w:World} {base:Nat} {os:List (Value×POp)} (h:w.ownsRow base 95 5 (.slice A n c) n (os.flatMap opc)) (a:os.length=n):OpsRd w A n os:=⟨Rd.of_ownN h,a⟩
structure OHold (w:World) (B:Nat) (F:List Nat) (v:Value) (os:List (Value×POp)):Prop where
 row:w.ownsRow B 95 5 v os.length (os.flatMap opc)
 data:∀ p∈os,w.ownsRow B 5 1 p.1 p.2.d.length (bys p.2.d)
 small:∀ p∈os,p.2.d.length<=64
 off:∀ g∈v.ownBlock.toList,g∉F
 offs:∀ p∈os,∀ g∈p.1.ownBlock.toList,g∉F
namespace OHold
variable {w w':World} {B:Nat} {F F':List Nat} {v:Value} {os:List (Value×POp)}
theorem kO (h:OHold w B F v os) (a:kz w w'):OHold w' B F v os:=⟨QB h.row a,fun p b=>QB (h.data p b) a,h.small,h.off,h.offs⟩
theorem turn (h:OHold w B F v os) {l:List Nat} (d:Keep l w w') (f:∀ x∈l,x∈F) (k:Grow w F F'):OHold w' B F' v os:=by
 have i:∀ {e:TypeId} {u:Value} {n q:Nat} {xs:List Value},w.ownsRow B e q u n xs->(∀ g∈u.ownBlock.toList,g∉F)->∀ g∈u.ownBlock.toList,g∉F':=by
  intro e u n q xs m o g a b;rcases k g b with j | j
  . exact o g a j
  have:=(own_mem m a).2;omega
 exact⟨XB h.row d (fun g a b=>h.off g (uq a) (f g b)),fun p c=>XB (h.data p c) d (fun g a b=>h.offs p c g (uq a) (f g b)),h.small,i h.row h.off,fun p c=>i (h.data p c) (h.offs p c)⟩
theorem rd (h:OHold w B F v os) (b:v=.slice A os.length c):OpsRd w A os.length os:=by
 have a:=h.row;rw[b] at a;exact OpsRd.of_own a rfl
theorem nil (w:World) (B:Nat) (F:List Nat):OHold w B F (.slice none 0 0) []:=⟨Ab _ _ _ _,sq,sq,by simp[Value.ownBlock],sq⟩
end OHold
theorem OHold.snoc {w w':World} {B:Nat} {v d:Value} {os:List (Value×POp)} (h:OHold w B [] v os) (p:Value×POp) (e:w.ownsRow B 5 1 p.1 p.2.d.length (bys p.2.d)) (i:p.2.d.length<=64)
 (j:w'.ownsRow B 95 5 d (os.length+1) (os.flatMap opc++opc p)) (f:Keep v.ownBlock.toList w w'):OHold w' B [] d (os++[p]):=by
 refine⟨?_,?_,?_,sq,sq⟩
 . rw[AE,Az,DL];exact j
 . intro q a
   rcases AD.1 a with a | a
   . exact XB (h.data q a) f (fun g b c=>own_ne (h.data q a) h.row (by decide) b (uq c))
   obtain rfl:=Ak.1 a;exact XB e f (fun g b c=>own_ne e h.row (by decide) b (uq c))
 intro q a;rcases AD.1 a with a | a
 . exact h.small q a
 obtain rfl:=Ak.1 a;exact i
theorem OHold.apart {w:World} {B:Nat} {v:Value} {os:List (Value×POp)} (h:OHold w B [] v os) {F:List Nat} (c:∀ x∈F,x<B):OHold w B F v os:=
 ⟨h.row,h.data,h.small,fun g a b=>by have:=(own_mem h.row a).1;have:=c g b;omega,fun p d g a b=>by have:=(own_mem (h.data p d) a).1;have:=c g b;omega⟩
structure PItem where
 k:Nat
 b:Nat
 c:Nat
 v:Nat
def itc (i:PItem):List Value:=[.int .i64 i.k,.int .i64 i.b,.int .i64 i.c,.int .i64 i.v]
theorem YG (i:PItem):(itc i).length=4:=rfl
def PItem.May (i:PItem):Prop:=
 ((i.k=1\/i.k=5)/\i.b<=63/\i.c=0/\i.v=0)\/((i.k=2\/i.k=6)/\i.b<=63/\1<=i.c/\i.c+i.b<=64/\i.v=0)\/(i.k=3/\i.b=0/\i.c=0/\1<=i.v/\i.v<=2147483647) \/
 (i.k=4/\i.b<=63/\i.c=0/\1<=i.v/\i.v<=4095)\/(i.k=7/\i.b=0/\i.c=0/\i.v<=31)
def PItem.loaded (i:PItem):Bool:=i.k == 1 || i.k == 4 || i.k == 5
theorem PItem.May.bounds {i:PItem} (h:i.May):i.k<=7/\i.b<=63/\i.c<=64/\i.v<=2147483647:=by
 rcases h with⟨h | h,_⟩ | ⟨h | h,_⟩ | ⟨h,_⟩ | ⟨h,_⟩ | ⟨h,_⟩ <;> omega
theorem VAr (n lo hi:Int) (w:World):cq 345 #[ii n,ii lo,ii hi] w (.bool (decide (lo<=n/\n<=hi))):=by
 by_cases a:lo<=n
 . by_cases b:n<=hi
   all_goals
    go_enter func345,ntmps345
    go_wp2
    go_ret;exact⟨by simp[a,b],rfl⟩
 go_enter func345,ntmps345
 go_wp2
 go_ret;exact⟨by simp;omega,rfl⟩
theorem Yp {i:PItem} (h:i.May) (w:World):cr 236 #[.agg (itc i).toArray] w (.bool true):=by
 obtain⟨k,b,c,v⟩:=i;simp only[itc];have g:=fun n lo hi W (h:lo<=n/\n<=hi)=>(by have:=VAr n lo hi W;rwa [AJ h] at this:cq 345 #[ii n,ii lo,ii hi] W (.bool true));have j:=Blk.new w 178 #[ii k,ii b,ii c,ii v];rcases h with⟨h | h,a,d,e⟩ | ⟨h | h,a,d,e,f⟩ | ⟨h,a,d,e,f⟩ | ⟨h,a,d,e,f⟩ | ⟨h,a,d,e⟩
 all_goals
  simp only at h a d e
  try simp only at f
  subst h
  try subst d
  try subst e
  try subst f
  try subst a
  go_enter func236,ntmps236;go_wp2_with (go_at_call 345;apply mq (g _ _ _ _ ⟨Z,Z⟩));go_ret;exact⟨rfl,kq.alloc _⟩
theorem Jk {i:PItem} (h:i.May) (w:World):cr 212 #[.agg (itc i).toArray] w (.bool i.loaded):=by
 have a:=fun W=>Yp h W;obtain⟨k,b,c,v⟩:=i;simp only[itc] at a ⊢;have f:=h.bounds.1;simp only at f;have d:k=1\/k=2\/k=3\/k=4\/k=5\/k=6\/k=7:=by rcases h with⟨h | h,_⟩ | ⟨h | h,_⟩ | ⟨h,_⟩ | ⟨h,_⟩ | ⟨h,_⟩ <;> simp only at h <;> omega
 clear h f;have j:=fun(w1:World) (d:kz (w.alloc (.cells #[ii k,ii b,ii c,ii v] 178)) w1)=>(Blk.new w 178 #[ii k,ii b,ii c,ii v]).kO d;rcases d with rfl | rfl | rfl | rfl | rfl | rfl | rfl
 all_goals
  go_enter func212,ntmps212;go_wp2_with (apply (a _).mono;clear a;rintro e w1 ⟨rfl,g⟩;have l:=(j _ g).cell 0;simp at l);go_ret;exact⟨rfl,(kq.alloc _).tO g⟩
def Zu (N:Nat) (H:List UInt8):List UInt8:=laid (laid (List.replicate N 0) 0 H) (N-4) (le 4 (QY ((laid (List.replicate N 0) 0 H).take (N-4))))
theorem VAM (N:Nat) (H:List UInt8) (a:4<=N) (h:H.length<=N):(Zu N H).length=N:=by
 unfold Zu;rw[YI _ _ _ (by rw[length_le,QL _ _ h];omega),QL _ _ h]
theorem ZBO {w1:World} {r N:Nat} {v:Value} {H:List UInt8} (b:W0.ownsRow w1.heap.size 5 1 u N (bys (laid (List.replicate N 0) 0 H))) (c:4<=N) (d:N<=65536) (h:H.length<=N) :
 Calls prog 337 #[u] W0 fun e w'=>e=.returned u/\w'.ownsRow w1.heap.size 5 1 u N (bys (Zu N H))/\Keep u.ownBlock.toList W0 w':=by
 have a:=QL N H h;have:=Xw (base:=w1.heap.size) (v:=u) (laid (List.replicate N 0) 0 H) (w:=W0) (by rw[a];exact b) Z Z;rw[a] at this;exact this
theorem Xd (n lo hi:Int) (w:World) (h:lo<=n/\n<=hi):cq 431 #[ii n,ii lo,ii hi] w (.bool true):=by
 obtain⟨a,b⟩:=h;go_enter func431,ntmps431
 go_wp2
 go_ret;exact⟨rfl,rfl⟩
def YAO (seg mount lsn prev:Nat):List UInt8:=([]++[75,72,seg].flatMap (le 1))++[mount,lsn,prev].flatMap (le 4)
theorem Ka (a b c d:Nat):(YAO a b c d).length=15:=by simp[YAO,XE]
theorem XBX (c a b d:Nat) (i:c<=31) (j:1<=a/\a<=2147483647) (k:1<=b/\b<=2147483647) (l:d<=4294967295) (w:World) :
 cr 385 #[.agg #[ii c,ii a,ii b,ii d]] w (.bool true):=by
 have e:=fun W=>Xd c 0 31 W ⟨Z,Z⟩;have f:=fun W=>Xd a 1 2147483647 W ⟨Z,Z⟩;have g:=fun W=>Xd b 1 2147483647 W ⟨Z,Z⟩;have h:=fun W=>Xd d 0 4294967295 W ⟨Z,Z⟩;go_enter func385,ntmps385;go_wp2_with (first | (apply mq (e _);clear e) | (apply mq (f _);clear f) | (apply mq (g _);clear g) | (apply mq (h _);clear h));go_ret;exact⟨rfl,kq.alloc _⟩
theorem YE {w:World} (h:Blk w g t #[x0,x1,x2,x3]) :
 cl w g x0/\cl w (aq g 1) x1/\cl w (aq g 2) x2/\cl w (aq g 3) x3:=
 ⟨uq (h.cell 0),uq (h.cell 1),uq (h.cell 2),uq (h.cell 3)⟩
theorem YAe (c a b d:Nat) (I:c<=31) (J:1<=a/\a<=2147483647) (K:1<=b/\b<=2147483647) (L:d<=4294967295) (w:World) :
 Calls prog 329 #[.agg #[ii c,ii a,ii b,ii d]] w fun e w'=>∃ u,e=.returned (.tuple #[u,zz])/\w'.ownsRow w.heap.size 5 1 u 64 (bys (Zu 64 (YAO c a b d)))/\kz w w':=by
 have B:=fun W=>XBX c a b d I J K L W;have M:=Blk.new w 383 #[ii c,ii a,ii b,ii d];go_enter func329,ntmps329
 go_wp2_with (
  (refine(B _).mono ?_)
  rintro r w1 ⟨rfl,C⟩;clear B;have s:=M.kO C;obtain⟨i,j,l,m⟩:=YE s;have S:=s.lt)
 have D:=YAM 64 Z w1
 go_wp2_with (
  (refine D.mono ?_)
  rintro r N ⟨g,u,rfl,E,h⟩;clear D;have f:=s.kO h;clear i j l m;obtain⟨i,j,l,m⟩:=YE f;have y:=f.lt)
 have n:RowAt N w1.heap.size g u (laid (List.replicate 64 0) 0 []) ([]:List UInt8).length:=by rw[laid_nil];exact E
 clear E;have o:=Zt (k:=1) h n Z [75,72,c] (by simp;omega) sq (by simp[XE]) #[ii 75,ii 72,ii c] rfl 3 rfl
 go_wp2_with (
  (refine o.mono ?_)
  clear o;rintro r w3 ⟨rfl,t,p⟩;clear n h f i j l m y;have f:=s.kO p;obtain⟨i,j,l,m⟩:=YE f;have y:=f.lt;have n:=t;have h:=p;clear t p)
 have o:=Zt (k:=4) h n Z [a,b,d] (by simp;omega) sq (by simp[XE]) #[ii a,ii b,ii d] rfl 3 rfl
 go_wp2_with (
  (refine o.mono ?_)
  clear o;rintro r w3 ⟨rfl,t,p⟩;clear n h f i j l m y;have z:=Jp t)
 rw[show ([]++[75,72,c].flatMap (le 1))++[a,b,d].flatMap (le 4)=YAO c a b d from rfl,QL _ _ (by rw[Ka];omega)] at z
 go_wp2_with (
  (refine z.mono ?_)
  clear z;rintro r w4 ⟨F,rfl,G,O⟩;have H:=ZBO (w1:=w3) (r:=0) (v:=F) G Z Z (by rw[Ka];omega))
 go_wp2_with (
  (refine H.mono ?_)
  clear H;rintro r T ⟨rfl,P,Q⟩)
 go_ret2;have A:kz w w3:=((kq.alloc _).tO C).tO p;refine⟨F,rfl,ZC P A.size,(A.tO O).trans Q (fun x R=>.inr ?_)⟩;exact AA A.size (own_mem G R).1
def RowX (w:World) (base r:Nat) (v:Value) (N a:Nat):Prop:=∃ bs,bs.length=N/\RowAt w base r v bs a
theorem RowX.kO {w w':World} {base r N:Nat} {v:Value} (h:RowX w base r v N a) (b:kz w w'):RowX w' base r v N a:=by
 obtain⟨bs,c,d⟩:=h;exact⟨bs,c,d.kO b⟩
theorem RowX.fresh {w:World} {base r N:Nat} {v:Value} (h:RowX w base r v N a):∀ x∈r :: v.ownBlock.toList,base<=x:=by
 obtain⟨bs,c,b⟩:=h;exact b.fresh
theorem RowX.blk {w w':World} {base r N:Nat} {v:Value} (h:RowX w base r v N a) (d:Keep (r :: v.ownBlock.toList) w w') (b:Blk w g t cs) (e:t≠400) (f:5≠t):Blk w' g t cs:=by
 obtain⟨bs,_,h⟩:=h;refine b.keep d (fun c=>?_);rcases AM.1 c with rfl | c
 . exact Blk.ne_ (t:=t) b h.blk e rfl
 exact own_blk_ne h.own b f (uq c)
theorem ZBt (n:Nat) (a:n<=65536) (w:World) :
 Calls prog 335 #[n] w fun e w'=>∃ r v,e=.returned (pq r)/\RowX w' w.heap.size r v n 0/\kz w w':=by
 apply (YAM n a w).mono;rintro e w' ⟨r,v,rfl,h,b⟩;exact⟨r,v,rfl,⟨_,sq,h⟩,b⟩
theorem JBt {base r N:Nat} {v:Value} (f:RowX W0 base r v N a) (g:k=1\/k=2\/k=4) (zs:List Nat) (h:∀ z∈zs,z<256 ^ k) (i:0<zs.length) (A:a+k*zs.length<=N)
 (cs:Array Value) (d:cs.toList=YL zs) (m:Nat) (j:m=zs.length) :
 Calls prog 336 #[pq r,k,.slice (some W0.heap.size) m m] (W0.alloc (.cells cs 3)) fun e w'=>e=.returned (.bool true) /\
  RowX w' base r v N (a+k*m)/\Keep (r :: v.ownBlock.toList) W0 w':=by
 subst j;obtain⟨bs,l,c⟩:=f;have o:RowAt (W0.alloc (.cells cs 3)) base r v bs a:=c.kO (kq.alloc _)
 have s:Rd (W0.alloc (.cells cs 3)) (some W0.heap.size) zs.length (YL zs):=by
  have t:cs.toList.length=zs.length:=by rw[d,length_nats]
  have:=Rd.of_blk (n:=zs.length) (Blk.new W0 3 cs) (uq (Ap t.symm));rw[d,AH sq] at this;exact this
 refine(YAb k o g zs.length zs s (fun p u=>?_) h i Z).mono ?_
 . cases u
   intro b;rcases AM.1 b with e | b
   . exact absurd (show W0.heap.size=r from e) (CU c.blk.lt)
   exact absurd (own_mem c.own b).2 (Cc _)
 rintro e w' ⟨rfl,w,y⟩;refine⟨rfl,⟨_,?_,w⟩,(kq.alloc _).trans y (fun x b=>.inl b)⟩;rw[YI _ _ _ (by rw[XE];omega)];exact l
theorem XBn {base r N:Nat} {v:Value} (c:RowX W0 base r v N a) :
 Calls prog 338 #[pq r] W0 fun e w'=>∃ u bs,e=.returned u/\bs.length=N/\w'.ownsRow W0.heap.size 5 1 u N (bys bs)/\kz W0 w':=by
 obtain⟨bs,b,d⟩:=c;apply (Jp d).mono;rintro e w' ⟨u,rfl,f,g⟩;exact⟨u,bs,rfl,b,by rw[<- b];exact f,g⟩
theorem JBr {base N:Nat} (b:bs.length=N) (c:W0.ownsRow base 5 1 u N (bys bs)) (d:4<=N) (g:N<=65536) :
 Calls prog 337 #[u] W0 fun e w'=>∃ cs,e=.returned u/\cs.length=N/\w'.ownsRow base 5 1 u N (bys cs)/\Keep u.ownBlock.toList W0 w':=by
 subst b;apply (Xw bs c d Z).mono;rintro e w' ⟨rfl,a,f⟩;refine⟨_,rfl,?_,a,f⟩;simpa using a.1
theorem KI {c:Type} {f:c->List Value} {s:Nat} (d:∀ x,(f x).length=s) {w:World} {xs:List c} (h:Rd w (some g) (n*s) (xs.flatMap f)) {j:Nat} (hi:i<xs.length) (e:j<s) :
 g<w.heap.size/\w.cell? (aq g (i*s+j))=(f xs[i])[j]? := by
 have a:=JP d xs i j hi e;have k:j<(f xs[i]).length:=by rw[d xs[i]];exact e
 obtain⟨u,l⟩:∃ u,(f xs[i])[j]? = some u:=⟨_,AC k⟩;rw[l] at a ⊢
 have m:0<n*s:=by
  have:=(BL.1 a).1;rw[h.1] at this;omega
 obtain⟨b,o,p,r,t⟩:=h.2 m;cases p;exact⟨r,uq (t _ _ a)⟩
theorem QBQ (A:Option Addr) (c:Nat) (w:World):cq 434 #[.slice A 64 c] w (.bool false):=by
 go_enter func434,ntmps434
 go_wp2
 go_ret;exact⟨rfl,rfl⟩
theorem ZAW (c:Nat) {w:World} (d:Rws w A n ls) (h:∀ p∈ls,p.2.length=64) (v:n<=1000000) :
 cr 451 #[.slice A n c,.func (.func 434) #[] #[]] w (ii (-1)):=by
 have r:=JB d.len;go_enter func451,ntmps451;go_wp2_with fail;go_loopw [5,8] (fun _ i wr=>∃ k:Nat,k<=n/\i=.int .i64 k/\kz w wr) (fun _ i _=>n-(intOf i).toNat)
 case atStart=>exact⟨0,AS _,rfl,kq⟩
 obtain⟨k,y,rfl,a⟩:=hrel;by_cases e:k<n
 . have f:k<ls.length:=by rw[JA r];exact e
   have z:((k:Nat):Int)<(n:Nat):=Z;obtain⟨b,o,rfl,B,C,s⟩:=(d.keep a).at_ e f;have g:=h _ (AQ f);generalize ls[k]=p at *;obtain⟨D,t⟩:=p;obtain⟨E,j,F,l,G,H,u⟩:=s;simp only at l;subst l;have m:t.length=j:=uq u.1;obtain rfl:64=j:=by rw[<- m];exact g.symm
   clear m g;go_wp2_with (apply mq (QBQ _ _ _));go_roundw;case rel=>exact⟨k+1,Z,by go_num,a⟩
   case measure=>simp[intOf];omega
 obtain rfl:n=k:=Z
 go_wp2
 go_ret;exact⟨rfl,a⟩
theorem QAV (c:Nat) {w:World} (a:Rws w A n ls) (h:∀ p∈ls,p.2.length=64) (b:n<=1000000) :
 cr 433 #[.slice A n c,.func (.func 434) #[] #[]] w (.bool false):=by
 have d:=ZAW c a h b;go_enter func433,ntmps433;go_wp2_with (apply d.mono;rintro e w' ⟨rfl,f⟩);go_ret;exact⟨rfl,f⟩
theorem Jd (n lo hi:Int) (w:World) (h:lo<=n/\n<=hi):cq 432 #[ii n,ii lo,ii hi] w (.bool true):=by
 obtain⟨a,b⟩:=h;go_enter func432,ntmps432
 go_wp2
 go_ret;exact⟨rfl,rfl⟩
def ZG (is:List PItem):Nat:=(is.filter (·.loaded)).length
theorem Qh (is:List PItem) (i:PItem):ZG (is++[i])=ZG is+if i.loaded then 1 else 0:=by
 unfold ZG;rw[DP,AE];cases h:i.loaded <;> simp[h]
theorem ZL (is:List PItem):ZG is<=is.length:=DS _ _
theorem VD {w:World} (h:Blk w g t #[x0,x1,x2,x3,x4]) :
 cl w g x0/\cl w (aq g 1) x1/\cl w (aq g 2) x2/\cl w (aq g 3) x3/\cl w (aq g 4) x4:=
 ⟨uq (h.cell 0),uq (h.cell 1),uq (h.cell 2),uq (h.cell 3),uq (h.cell 4)⟩
theorem YAj (d f o:Nat) (h2:1<=d/\d<=2147483647) (h3:1<=f/\f<=2147483647) (h4:o<=4294967295) (g n c:Nat) (is:List PItem) (t:Nat) {w:World}
 (u:Rd w (some g) (n*4) (is.flatMap itc)) (F:is.length=n) (hm:∀ i∈is,i.May) (h1:1<=n) (h6:n<=6) (hb:Rws w A m ls) (a2:∀ p∈ls,p.2.length=64) (G:m=ZG is) :
 cr 386 #[.agg #[ii d,ii f,ii o,.slice (some g) n c,.slice A m t]] w (.bool true):=by
 have ac:m<=6:=by have:=ZL is;omega
 have H:=fun W=>Jd d 1 2147483647 W ⟨Z,Z⟩;have I:=fun W=>Jd f 1 2147483647 W ⟨Z,Z⟩;have J:=fun W=>Jd o 0 4294967295 W ⟨Z,Z⟩;have K:=fun W=>Jd n 1 6 W ⟨Z,Z⟩;obtain⟨a,r⟩:∃ a:Nat->Nat,∀ k,a k=ZG (is.take k):=⟨_,fun _=>rfl⟩;have L:a 0=0:=by rw[r];simp[ZG]
 have M:a n=m:=by rw[r,AH Z,G]
 have N:∀ k (h:k<is.length),a (k+1)=a k+if is[k].loaded then 1 else 0:=fun k h=>by rw[r,r,AO h,Qh]
 have y:∀ k,k<=n->a k<=6:=fun k h=>by rw[r];have:=ZL (is.take k);rw[BE] at this;omega
 have a3:=JB N;have a4:=JB M;have a5:=JB F;clear N M r G F;have s:=Blk.new w 280 #[ii d,ii f,ii o,.slice (some g) n c,.slice A m t];go_enter func386,ntmps386;go_wp2_with (first | (apply mq (H _);clear H) | (apply mq (I _);clear I) | (apply mq (J _);clear J) | (apply mq (K _);clear K));obtain⟨w1,B⟩:=ex (w.alloc (.cells #[ii d,ii f,ii o,.slice (some g) n c,.slice A m t] 280));have O:kz w w1:=by rw[B];exact kq.alloc _
 rw[<- B] at s ⊢;clear B;go_loopw [3,5,32] (fun z _ i wr=>∃ k:Nat,k<=n/\i=.int .i64 k/\z=.int .i64 (a k:Nat)/\kz w wr/\Blk wr w.heap.size 280 #[ii d,ii f,ii o,.slice (some g) n c,.slice A m t]) (fun _ _ i _=>n-(intOf i).toNat)
 case atStart=>exact⟨0,AS _,rfl,by rw[L];rfl,O,s⟩
 clear O s L;obtain⟨k,h,rfl,rfl,b,s⟩:=hrel;by_cases a6:k<n
 . have l:k<is.length:=by rw[JA a5];exact a6
   have ad:((k:Nat):Int)<(n:Nat):=Z;have ae:g<wr.heap.size:=(KI YG (u.keep b) l (j:=0) Z).1;have P:=(KI YG (u.keep b) l (j:=0) Z).2;have Q:=(KI YG (u.keep b) l (j:=1) Z).2;have R:=(KI YG (u.keep b) l (j:=2) Z).2;have S:=(KI YG (u.keep b) l (j:=3) Z).2;have C:=hm _ (AQ l);have D:=fun W=>Yp C W;have E:=fun W=>Jk C W;have a7:=JB (JA a3 k l);have af:=y k h;clear y;generalize is[k]=it at *;generalize a8:a (k+1)=q2 at *;generalize hq:a k=q at *;obtain⟨T,U,V,X⟩:=it;generalize a9:PItem.loaded ⟨T,U,V,X⟩=lb at *;simp only[itc,Bi,Bo,BV] at P Q R S D E;clear C a9 hq;have Y:=Blk.new wr 178 #[ii T,ii U,ii V,ii X];cases lb
   all_goals
    go_wp2_with (
     (refine(D _).mono ?_)
     rintro e w2 ⟨rfl,v⟩;clear D;have a0:=Y.kO v;clear Y;obtain⟨d0,d1,d2,d3⟩:=YE a0;have ag:=a0.lt)
    go_wp2_with (
     (refine(E _).mono ?_)
     rintro e w3 ⟨rfl,aa⟩;clear E)
    have a1:kz wr w3:=((kq.alloc _).tO v).tO aa;go_roundw;case rel=>exact⟨k+1,Z,by go_num,by rw[a8,JA a7];simp,b.tO a1,s.kO a1⟩
    case measure=>simp[intOf];omega
 obtain rfl:n=k:=Z;rw[JA a4];clear y;have ab:=fun(W:World) (h:kz wr W)=>QAV t (hb.keep (b.tO h)) a2 Z;obtain⟨P,Q,R,S,c4⟩:=VD s;go_wp2_with (refine(ab _ ?_).mono ?_;rotate_left;rintro e w' ⟨rfl,v⟩;rotate_right;exact kq);go_ret;exact⟨rfl,b.tO v⟩
def XY (N:Nat) (H:List UInt8):List UInt8:=H++List.replicate (N-H.length) 0
@[simp] theorem length_zpad {N:Nat} {H:List UInt8} (h:H.length<=N):(XY N H).length=N:=by simp[XY];omega
theorem KAT {N:Nat} {H ys:List UInt8} (h:H.length+ys.length<=N):laid (XY N H) H.length ys=XY N (H++ys):=by
 unfold laid XY;rw[List.take_left,CJ,Du Z,Ad,CZ,AE]
 congr 2
 omega
def RowZ (w:World) (base r:Nat) (v:Value) (N:Nat) (H:List UInt8):Prop:=H.length<=N/\RowAt w base r v (XY N H) H.length
namespace RowZ
variable {w w':World} {base r N:Nat} {v:Value} {H:List UInt8}
theorem kO (h:RowZ w base r v N H) (a:kz w w'):RowZ w' base r v N H:=⟨h.1,h.2.kO a⟩
theorem fresh (h:RowZ w base r v N H):∀ x∈r :: v.ownBlock.toList,base<=x:=h.2.fresh
theorem x (h:RowZ w base r v N H):RowX w base r v N H.length:=⟨_,length_zpad h.1,h.2⟩
end RowZ
theorem YBo (n:Nat) (a:n<=65536) (w:World) :
 Calls prog 335 #[n] w fun e w'=>∃ r v,e=.returned (pq r)/\RowZ w' w.heap.size r v n []/\kz w w':=by
 apply (YAM n a w).mono;rintro e w' ⟨r,v,rfl,h,b⟩;exact⟨r,v,rfl,⟨sq,by simpa [XY] using h⟩,b⟩
theorem QAO {base r N:Nat} {v:Value} {H:List UInt8} (h:RowZ W0 base r v N H) (i:k=1\/k=2\/k=4) (zs:List Nat) (j:∀ z∈zs,z<256 ^ k) (l:0<zs.length) (c:H.length+k*zs.length<=N)
 (cs:Array Value) (d:cs.toList=YL zs) (m:Nat) (o:m=zs.length) :
 Calls prog 336 #[pq r,k,.slice (some W0.heap.size) m m] (W0.alloc (.cells cs 3)) fun e w'=>e=.returned (.bool true) /\
  RowZ w' base r v N (H++zs.flatMap (le k))/\Keep (r :: v.ownBlock.toList) W0 w':=by
 subst o;obtain⟨s,b⟩:=h;have t:RowAt (W0.alloc (.cells cs 3)) base r v (XY N H) H.length:=b.kO (kq.alloc _)
 have u:Rd (W0.alloc (.cells cs 3)) (some W0.heap.size) zs.length (YL zs):=by
  have w:cs.toList.length=zs.length:=by rw[d,length_nats]
  have:=Rd.of_blk (n:=zs.length) (Blk.new W0 3 cs) (uq (Ap w.symm));rw[d,AH sq] at this;exact this
 have f:=XE k zs;refine(YAb k t i zs.length zs u (fun p y=>?_) j l (by rw[length_zpad s];exact c)).mono ?_
 . cases y
   intro a;rcases AM.1 a with e | a
   . exact absurd (show W0.heap.size=r from e) (CU b.blk.lt)
   exact absurd (own_mem b.own a).2 (Cc _)
 rintro e w' ⟨rfl,g,A⟩;rw[KAT Z] at g;exact⟨rfl,⟨by rw[AE,f];exact c,by rw[AE,f];exact g⟩,(kq.alloc _).trans A (fun x a=>.inl a)⟩
theorem XBt {base r N:Nat} {v:Value} {H:List UInt8} (g:RowZ W0 base r v N H) {S:Option Addr} (a:Nat) (ys:List UInt8) (b:Rd W0 S m (bys ys)) (c:H.length+m<=N) :
 Calls prog 352 #[pq r,.slice S m a] W0 fun e w'=>e=.returned (.bool true)/\RowZ w' base r v N (H++ys)/\Keep (r :: v.ownBlock.toList) W0 w':=by
 obtain⟨h,i⟩:=g;have d:ys.length=m:=uq b.1;refine(QBM i a ys b (by rw[length_zpad h];exact c)).mono ?_;rintro e w' ⟨rfl,f,j⟩;rw[KAT Z] at f;exact⟨rfl,⟨by rw[AE,d];exact c,by rw[AE,d];exact f⟩,j⟩
theorem YBr {base r N:Nat} {v:Value} {H:List UInt8} (b:RowZ W0 base r v N H) (a:H.length+m<=N) :
 Calls prog 257 #[pq r,m] W0 fun e w'=>∃ u,e=.returned (.tuple #[u,.bool true])/\RowZ w' base r v N (H++List.replicate m 0)/\Keep (r :: v.ownBlock.toList) W0 w':=by
 obtain⟨c,d⟩:=b;refine(ZP m d (by rw[length_zpad c];exact a)).mono ?_;rintro e w' ⟨u,rfl,h,f,g⟩;refine⟨u,rfl,⟨uq a,?_⟩,g.sub sq⟩
 have:XY N (H++List.replicate m 0)=XY N H:=by
  unfold XY;rw[BG,CY,AE,Ai]
  congr 2
  omega
 rw[this,AE,Ai];exact f
theorem JAH {base r N:Nat} {v:Value} {H:List UInt8} (b:RowZ W0 base r v N H) :
 Calls prog 338 #[pq r] W0 fun e w'=>∃ u,e=.returned u/\w'.ownsRow W0.heap.size 5 1 u N (bys (XY N H))/\kz W0 w':=by
 obtain⟨c,d⟩:=b;apply (Jp d).mono;rintro e w' ⟨u,rfl,a,f⟩;exact⟨u,rfl,by rw[length_zpad c] at a;exact a,f⟩
def Vk (N:Nat) (H:List UInt8):List UInt8:=XY (N-4) H++le 4 (QY (XY (N-4) H))
theorem Va {N:Nat} {H:List UInt8} (a:4<=N) (h:H.length<=N-4):(Vk N H).length=N:=by
 unfold Vk;rw[AE,length_zpad h,length_le];omega
theorem XAP {N:Nat} {H:List UInt8} (c:4<=N) (h:H.length<=N-4):laid (XY N H) ((XY N H).length-4) (le 4 (QY ((XY N H).take ((XY N H).length-4))))=Vk N H:=by
 have b:(XY N H).length=N:=length_zpad Z
 have a:(XY N H).take (N-4)=XY (N-4) H:=by
  unfold XY;rw[DJ,AH h,Cu]
  congr 2
  omega
 rw[b,a];unfold laid Vk;rw[a,length_le,Du Z,Ba]
theorem KBi {base N:Nat} {H:List UInt8} (c:W0.ownsRow base 5 1 u N (bys (XY N H))) (d:4<=N) (h:H.length<=N-4) (g:N<=65536) :
 Calls prog 337 #[u] W0 fun e w'=>e=.returned u/\w'.ownsRow base 5 1 u N (bys (Vk N H))/\Keep u.ownBlock.toList W0 w':=by
 have a:(XY N H).length=N:=length_zpad Z;refine(Xw (base:=base) (v:=u) (XY N H) (w:=W0) (by rw[a];exact c) Z Z).mono ?_;rintro e w' ⟨rfl,b,f⟩;rw[XAP d h,a] at b;exact⟨rfl,b,f⟩
def fields:List (Nat×Nat)->List UInt8
 | []=>[]
 | (k,n) :: l=>le k n++fields l
def widths:List (Nat×Nat)->Nat
 | []=>0
 | (k,_) :: l=>k+widths l
@[simp] theorem length_fields (l:List (Nat×Nat)):(fields l).length=widths l:=by
 induction l with
 | nil=>rfl
 | cons p l ih=>obtain⟨k,n⟩:=p;simp[fields,widths,ih]
theorem KG (l m:List (Nat×Nat)):fields (l++m)=fields l++fields m:=by
 induction l with
 | nil=>rfl
 | cons p l ih=>obtain⟨k,n⟩:=p;simp[fields,ih]
theorem ZO (k:Nat) (zs:List Nat):zs.flatMap (le k)=fields (zs.map fun z=>(k,z)):=by
 induction zs with
 | nil=>rfl
 | cons z zs ih=>simp[fields,ih]
theorem YAo (l:List (Nat×Nat)) (k n:Nat) (m:List (Nat×Nat)) (t:List UInt8) (a:n<256 ^ k):num (((fields (l++(k,n) :: m)++t).drop (widths l)).take k)=n:=by
 rw[KG,BG,List.drop_left' (length_fields l)];simp only[fields];rw[BG,List.take_left' (length_le k n),XAu k n a]
theorem Ja (N:Nat) (l:List (Nat×Nat)):∃ t,Vk N (fields l)=fields l++t:=⟨_,by unfold Vk XY;rw[BG]⟩
def itF (i:PItem):List (Nat×Nat):=[(1,i.k),(1,i.b),(1,i.c),(4,i.v)]
def QR (is:List PItem):List UInt8:=fields (is.flatMap itF)
theorem Yc (l m:List (Nat×Nat)):widths (l++m)=widths l+widths m:=by
 induction l with
 | nil=>simp[widths]
 | cons p l ih=>obtain⟨k,n⟩:=p;simp[widths,ih,Bf]
@[simp] theorem length_itemB (is:List PItem):(QR is).length=7*is.length:=by
 unfold QR;rw[length_fields]
 induction is with
 | nil=>rfl
 | cons i is ih=>rw[At,Yc,ih];simp[itF,widths];omega
theorem VAm (is:List PItem) (i:PItem):QR (is++[i])=QR is++[i.k,i.b,i.c].flatMap (le 1)++[i.v].flatMap (le 4):=by
 unfold QR;rw[Az,KG,DL,BG];simp[itF,fields]
theorem ZAO {N:Nat} {H:List UInt8} (h:H.length=N):XY N H=H:=by
 unfold XY;rw[h,CS];simp
theorem QAh (g n c:Nat) (is:List PItem) {w:World} (h:Rd w (some g) (n*4) (is.flatMap itc)) (D:is.length=n) (S:∀ i∈is,i.May) (h6:n<=6) :
 Calls prog 387 #[.slice (some g) n c] w fun e w'=>∃ u,e=.returned (.tuple #[u,zz])/\w'.ownsRow w.heap.size 5 1 u (7*n) (bys (QR is))/\kz w w':=by
 have v:=JB D;clear D;have a6:((n:Nat):Int)<=6:=Z;obtain⟨N,y⟩:=ex (7*n);have T:=YBo N Z w;have a7:IntKind.i64.wrap (7*(n:Nat):Int)=(N:Nat):=by rw[AK];omega
 rw[<- y];have z:=JB y;clear y;go_enter func387,ntmps387;go_wp2_with (apply T.mono;rintro e w1 ⟨r,U,rfl,b,a⟩);go_loopw [6,16] (fun _ i wr=>∃ k:Nat,k<=n/\i=.int .i64 k/\RowZ wr w.heap.size r U N (QR (is.take k))/\kz w wr) (fun _ i _=>n-(intOf i).toNat)
 case atStart=>exact⟨0,AS _,rfl,b,a⟩
 clear b a;obtain⟨k,hk,rfl,b,a⟩:=hrel;by_cases V:k<n
 . have d:k<is.length:=by rw[JA v];exact V
   have a8:((k:Nat):Int)<(n:Nat):=Z;have a9:g<wr.heap.size:=(KI YG (h.keep a) d (j:=0) Z).1;have X:=(KI YG (h.keep a) d (j:=0) Z).2;have Y:=(KI YG (h.keep a) d (j:=1) Z).2;have c2:=(KI YG (h.keep a) d (j:=2) Z).2;have a0:=(KI YG (h.keep a) d (j:=3) Z).2;have E:is.take (k+1)=is.take k++[is[k]]:=AO d;have F:(QR (is.take k)).length=7*k:=by rw[length_itemB,BE];omega
   have A:=S _ (AQ d);have B:=fun W=>Yp A W;have G:=A.bounds;generalize is[k]=it at *;obtain⟨l,m,o,p⟩:=it;simp only[itc,Bi,Bo,BV] at X Y c2 a0 G B;have a1:=JB E;clear A E;obtain⟨b1,b2,b3,b4⟩:=G;have H:=Blk.new wr 178 #[ii l,ii m,ii o,ii p];go_wp2_with fail;apply (B _).mono;rintro e w2 ⟨rfl,f⟩;clear B;have t:=H.kO f;clear H;obtain⟨I,J,K,L⟩:=YE t;have M:=t.lt;go_wp2_with fail;have b:=(b.kO (kq.alloc (.cells #[ii l,ii m,ii o,ii p] 178))).kO f;have s:=QAO (k:=1) b Z [l,m,o] (by simp;omega) sq (by have:=JA z;rw[F];simp;omega) #[ii l,ii m,ii o] rfl 3 rfl;have a2:=(a.alloc (.cells #[ii l,ii m,ii o,ii p] 178)).tO f;clear a
   go_wp2_with (
    (refine s.mono ?_)
    clear s;rintro e w3 ⟨rfl,O,P⟩;have Q:=b.x.blk P t (by decide) (by decide);clear f I J K L M t;obtain⟨I,J,K,L⟩:=YE Q;have M:=Q.lt)
   have a3:=a2.trans P (fun x C=>.inr (b.fresh x C));have s:=QAO (k:=4) O Z [p] (by simp;omega) sq (by have:=JA z;rw[AE,F];simp[length_le];omega) #[ii p] rfl 1 rfl
   go_wp2_with (
    (refine s.mono ?_)
    clear s;rintro e w4 ⟨rfl,a4,a5⟩)
   go_roundw;case rel=>exact⟨k+1,Z,by go_num,by rw[JA a1,VAm];exact a4,a3.trans a5 (fun x C=>.inr (O.fresh x C))⟩
   case measure=>simp[intOf];omega
 obtain rfl:n=k:=Z;go_wp2_with (apply (JAH b).mono;rintro e w2 ⟨u,rfl,R,f⟩);go_ret2;rw[AH (by rw[JA v];exact AG _),ZAO (by rw[length_itemB,JA v];exact(JA z).symm)] at R;exact⟨u,rfl,ZC R a.size,a.tO f⟩
structure PSlot where
 v:Value
 o:POp
 is:Bool
def POp.zero:POp:=⟨0,0,0,0,[]⟩
def PSlot.none_:PSlot:=⟨.slice none 0 0,POp.zero,false⟩
def slc (q:PSlot):List Value:=[.int .i64 q.o.k,.int .i64 q.o.b,.int .i64 q.o.c,.int .i64 q.o.e,q.v,.bool q.is]
theorem KK (q:PSlot):(slc q).length=6:=rfl
structure WinIs (w:World) (base x:Nat) (L:Value) (F:List Nat) (next:Nat) (sl:List PSlot):Prop where
 blk:Blk w x 306 #[L,ii next]
 row:w.ownsRow base 313 6 L sl.length (sl.flatMap slc)
 dat:∀ q∈sl,w.ownsRow base 5 1 q.v q.o.d.length (bys q.o.d)
 foot:F=x :: (L.ownBlock.toList++sl.flatMap (fun q=>q.v.ownBlock.toList))
 base:base<=x
 pos:1<=sl.length
 few:sl.length<=16
 zero:∀ q∈sl,q.is=false->q=PSlot.none_
 nb:1<=next/\next<=2000000000
def WinAt (w:World) (base x:Nat) (F:List Nat) (next:Nat) (sl:List PSlot):Prop:=∃ L,WinIs w base x L F next sl
namespace WinIs
variable {w w':World} {base x:Nat} {L:Value} {F l:List Nat} {next:Nat} {sl:List PSlot}
theorem mem (h:WinIs w base x L F next sl) {y:Nat} (a:y∈F):y=x\/y∈L.ownBlock.toList\/∃ q∈sl,y∈q.v.ownBlock.toList:=by
 rw[h.foot] at a;simpa only[AM,AD,Bk] using a
theorem inX (h:WinIs w base x L F next sl):x∈F:=by rw[h.foot];simp
theorem inL (h:WinIs w base x L F next sl):∀ y∈L.ownBlock.toList,y∈F:=fun y a=>by rw[h.foot];exact Av _ (BB _ a)
theorem inQ (h:WinIs w base x L F next sl) {q:PSlot} (a:q∈sl):∀ y∈q.v.ownBlock.toList,y∈F:=fun y b=>by
 rw[h.foot];exact Av _ (BQ _ (Bk.2 ⟨q,a,b⟩))
theorem keep (h:WinIs w base x L F next sl) (a:Keep l w w') (b:Apart F l):WinIs w' base x L F next sl:=
 ⟨h.blk.keep a (b _ h.inX),XB h.row a fun y c=>b _ (h.inL y (uq c)),fun q d=>XB (h.dat q d) a fun y c=>b _ (h.inQ d y (uq c)),h.foot,h.base,h.pos,h.few,h.zero,h.nb⟩
theorem kO (h:WinIs w base x L F next sl) (a:kz w w'):WinIs w' base x L F next sl:=h.keep a Apart.nil_right
theorem lt (h:WinIs w base x L F next sl):∀ y∈F,y<w.heap.size:=by
 intro y a;rcases h.mem a with rfl | a | ⟨q,hq,a⟩
 . exact h.blk.lt
 . exact(own_mem h.row a).2
 exact(own_mem (h.dat q hq) a).2
theorem ge (h:WinIs w base x L F next sl):∀ y∈F,base<=y:=by
 intro y a;rcases h.mem a with rfl | a | ⟨q,hq,a⟩
 . exact h.base
 . exact(own_mem h.row a).1
 exact(own_mem (h.dat q hq) a).1
theorem xL (h:WinIs w base x L F next sl):x∉L.ownBlock.toList:=fun a=>own_blk_ne h.row h.blk (by decide) (uq a)
theorem xQ (h:WinIs w base x L F next sl) {q:PSlot} (a:q∈sl):x∉q.v.ownBlock.toList:=fun b=>own_blk_ne (h.dat q a) h.blk (by decide) (uq b)
theorem form (h:WinIs w base x L F next sl):∃ g c,L=.slice (some (aq g 0)) sl.length c/\sl.length<=c:=by
 obtain⟨g,c,e,a,_⟩:=JE h.row (by have:=h.pos;omega);exact⟨g,c,e,a⟩
theorem cells (h:WinIs w base x L F next sl):cl w x L/\cl w (aq x 1) (ii next):=⟨uq (h.blk.cell 0),uq (h.blk.cell 1)⟩
end WinIs
namespace WinAt
variable {w w':World} {base x:Nat} {F l:List Nat} {next:Nat} {sl:List PSlot}
theorem keep (h:WinAt w base x F next sl) (a:Keep l w w') (b:Apart F l):WinAt w' base x F next sl:=by obtain⟨L,h⟩:=h;exact⟨L,h.keep a b⟩
theorem kO (h:WinAt w base x F next sl) (a:kz w w'):WinAt w' base x F next sl:=h.keep a Apart.nil_right
theorem lt (h:WinAt w base x F next sl):∀ y∈F,y<w.heap.size:=by obtain⟨L,h⟩:=h;exact h.lt
theorem ge (h:WinAt w base x F next sl):∀ y∈F,base<=y:=by obtain⟨L,h⟩:=h;exact h.ge
end WinAt
theorem XAx (w:World):cr 32 #[.agg #[zz,zz,zz]] w (.tuple #[.pointer none,ii 1]):=by
 have a:=fun W=>VJ 0 1 64 W;rw[AX Z] at a;go_enter func32,ntmps32;go_wp2_with (first | (apply mq (a _);clear a));go_ret2;exact⟨rfl,kq.alloc _⟩
theorem XG {w:World} (h:Blk w g t #[x0,x1,x2,x3,x4]) :
 cl w g x0/\cl w (aq g 1) x1/\cl w (aq g 2) x2/\cl w (aq g 3) x3/\cl w (aq g 4) x4:=
 ⟨uq (h.cell 0),uq (h.cell 1),uq (h.cell 2),uq (h.cell 3),uq (h.cell 4)⟩
theorem KAp (B b a:Nat) (i:1<=B) (j:B<=64) (l:b<=2147483647) (k:1<=a/\a<=2147483647) (w:World) :
 cr 365 #[.agg #[ii B,ii 8,ii 24,ii b,ii a]] w (.bool true):=by
 have d:=fun W=>VAX W B i j;have f:=Blk.new w 338 #[ii B,ii 8,ii 24,ii b,ii a];obtain⟨m,n⟩:=k;have o:((b:Nat):Int)<=2147483647:=Z;have p:(1:Int)<=(a:Nat):=Z;have r:((a:Nat):Int)<=2147483647:=Z;go_enter func365,ntmps365
 go_wp2_with (
  (refine(d _).mono ?_)
  clear d;rintro e s ⟨g,rfl,-,-,h⟩;have c:=f.kO h;obtain⟨t,u,v,y,z⟩:=XG c;have A:=c.lt;clear f c)
 go_ret;exact⟨rfl,(kq.alloc _).tO h⟩
theorem KAu (w:World) :
 cr 365 #[.agg #[zz,zz,zz,zz,zz]] w (.bool false):=by
 have a:=fun W=>XAx W;go_enter func365,ntmps365
 go_wp2_with (
  (refine(a _).mono ?_)
  clear a;rintro e c ⟨rfl,b⟩)
 go_ret;exact⟨rfl,(kq.alloc _).tO b⟩
theorem XBf (w:World) :
 cr 285 #[.agg #[zz,zz,zz,zz,zz]] w (.tuple #[zn,ii 1]):=by
 have a:=fun W=>KAu W;go_enter func285,ntmps285
 go_wp2_with (
  (refine(a _).mono ?_)
  clear a;rintro e c ⟨rfl,b⟩)
 go_ret2;exact⟨rfl,(kq.alloc _).tO b⟩
theorem JBn {base r:Nat} {v:Value} (h:RowAt W0 base r v (List.replicate 64 0) a) (b:k=1\/k=2\/k=4) (c:a+k<=64) :
 Calls prog 258 #[pq r,k] W0 fun e w'=>e=.returned (.tuple #[zz,.bool true])/\RowAt w' base r v (List.replicate 64 0) (a+k)/\Keep [r] W0 w':=by
 have:=Xa k h b (uq c);rw[CZ,Cu,show min k (64-a)=k from Z] at this;have d:num (List.replicate k (0:UInt8))=0:=by rcases b with rfl | rfl | rfl <;> rfl
 rw[d] at this;exact this
theorem VAE {base r N:Nat} {v:Value} (j:Nat) (i:j<5) (b:RowAt w4 base r v bs a) (c:Blk w4 N 338 #[zz,zz,zz,zz,zz]) :
 RowAt (w4.setCell (aq N j) (.int .i64 0)) base r v bs a/\Blk (w4.setCell (aq N j) (.int .i64 0)) N 338 #[zz,zz,zz,zz,zz]/\Keep [N] w4 (w4.setCell (aq N j) (.int .i64 0)):=by
 have d:Keep [N] w4 (w4.setCell (aq N j) (.int .i64 0)):=kq.setCell (.inl sq) _;have g:r≠N:=fun e=>by subst e;exact Blk.ne_ (t:=338) c b.blk (by decide) rfl
 have h:∀ x∈v.ownBlock.toList,x≠N:=fun x f e=>by subst e;exact own_blk_ne b.own c (by decide) (uq f)
 refine⟨⟨b.blk.keep d (uq g),XB b.own d (fun x f=>uq (h x (uq f))),b.base,b.le,b.few⟩,?_,d⟩;have:=c.set j (.int .i64 0);obtain rfl | rfl | rfl | rfl | rfl:j=0\/j=1\/j=2\/j=3\/j=4:=Z;all_goals simpa using this
theorem XAq {base r N:Nat} {v:Value} {l:List Nat} (c:RowAt w3 base r v bs a) (d:Keep l w3 w4) (e:∀ x∈l,x∈r :: v.ownBlock.toList) (b:Blk w3 N 338 #[zz,zz,zz,zz,zz]) :
 Blk w4 N 338 #[zz,zz,zz,zz,zz]:=by
 refine b.keep d (fun f=>?_);rcases AM.1 (e _ f) with rfl | hx
 . exact Blk.ne_ (t:=338) b c.blk (by decide) rfl
 exact own_blk_ne c.own b (by decide) (uq hx)
theorem Jr (c:Nat) {w:World} (ha:Rd w A 64 (bys (List.replicate 64 0))) :
 cr 364 #[.slice A 64 c] w (.tuple #[.agg #[zz,zz,zz,zz,zz],ii 2]):=by
 have F:=fun W (hk:kz w W)=>XU c _ (ha.keep hk) Z;have G:=fun W=>XBf W;have H:=Blk.new w 338 #[zz,zz,zz,zz,zz];go_enter func364,ntmps364
 go_wp2_with (
  (refine(F _ (kq.alloc _)).mono ?_)
  clear F;rintro e w2 ⟨r,v,rfl,m,u⟩;have I:=H.kO u;clear H)
 have J:kz w w2:=(kq.alloc _).tO u;have b:=ZP 2 m sq
 go_wp2_with (
  (refine b.mono ?_)
  clear b;rintro e w3 ⟨ut,rfl,-,n,y⟩)
 have K:=XAq m y sq I;have L:kz w w3:=J.trans y (fun x d=>.inr (AA sq (m.fresh x (by simp at d;simp[d]))));clear m I J u y;have b:=JBn (a:=2) (k:=1) n Z Z
 go_wp2_with (
  (refine b.mono ?_)
  clear b;rintro e w4 ⟨rfl,M,N⟩;have g:=XAq n N sq K;have q4:=g.frozen 0;obtain⟨x0,x1,x2,x3,x4⟩:=XG g;have af:=g.lt;obtain⟨o,O,a7⟩:=VAE 0 Z M g;have P:=(L.trans N (fun x d=>.inr (AA sq (n.fresh x (by simp at d;simp[d]))))).trans a7 iq
  skip)
 clear q4 x0 x1 x2 x3 x4 n K L M g;have b:=JBn (a:=3) (k:=1) o Z Z
 go_wp2_with (
  (refine b.mono ?_)
  clear b;rintro e w5 ⟨rfl,Q,R⟩;have h:=XAq o R sq O;have q5:=h.frozen 1;obtain⟨x0,x1,x2,x3,x4⟩:=XG h;have ag:=h.lt;obtain⟨p,S,a8⟩:=VAE 1 Z Q h;have T:=(P.trans R (fun x d=>.inr (AA sq (o.fresh x (by simp at d;simp[d]))))).trans a8 iq
  skip)
 clear q5 x0 x1 x2 x3 x4 o O P Q h;have b:=JBn (a:=4) (k:=1) p Z Z
 go_wp2_with (
  (refine b.mono ?_)
  clear b;rintro e w6 ⟨rfl,U,V⟩;have i:=XAq p V sq S;have q6:=i.frozen 2;obtain⟨x0,x1,x2,x3,x4⟩:=XG i;have ah:=i.lt;obtain⟨s,X,a9⟩:=VAE 2 Z U i;have Y:=(T.trans V (fun x d=>.inr (AA sq (p.fresh x (by simp at d;simp[d]))))).trans a9 iq
  skip)
 clear q6 x0 x1 x2 x3 x4 p S T U i;have b:=JBn (a:=5) (k:=4) s Z Z
 go_wp2_with (
  (refine b.mono ?_)
  clear b;rintro e w7 ⟨rfl,a0,a1⟩;have j:=XAq s a1 sq X;have q7:=j.frozen 3;obtain⟨x0,x1,x2,x3,x4⟩:=XG j;have ai:=j.lt;obtain⟨t,a2,aa⟩:=VAE 3 Z a0 j;have a3:=(Y.trans a1 (fun x d=>.inr (AA sq (s.fresh x (by simp at d;simp[d]))))).trans aa iq
  skip)
 clear q7 x0 x1 x2 x3 x4 s X Y a0 j;have b:=JBn (a:=9) (k:=4) t Z Z
 go_wp2_with (
  (refine b.mono ?_)
  clear b;rintro e w8 ⟨rfl,a4,a5⟩;have l:=XAq t a5 sq a2;have q8:=l.frozen 4;obtain⟨x0,x1,x2,x3,x4⟩:=XG l;have aj:=l.lt;obtain⟨ab,a6,ac⟩:=VAE 4 Z a4 l;have ad:=(a3.trans a5 (fun x d=>.inr (AA sq (t.fresh x (by simp at d;simp[d]))))).trans ac iq;obtain⟨y0,y1,y2,y3,y4⟩:=XG a6)
 clear q8 x0 x1 x2 x3 x4 t a2 a3 a4 l
 go_wp2_with (
  (refine(G _).mono ?_)
  clear G;rintro e w9 ⟨rfl,z⟩;have f:=a6.kO z;obtain⟨x0,x1,x2,x3,x4⟩:=XG f;have f0:=f.frozen 0;have f1:=f.frozen 1;have f2:=f.frozen 2;have f3:=f.frozen 3;have f4:=f.frozen 4;have ak:=f.lt)
 have B:=VAE 0 Z (ab.kO z) f;have C:=VAE 1 Z B.1 B.2.1;have D:=VAE 2 Z C.1 C.2.1;have E:=VAE 3 Z D.1 D.2.1;have z4:=VAE 4 Z E.1 E.2.1;have ae:=(((((ad.tO z).trans B.2.2 iq).trans C.2.2 iq).trans D.2.2 iq).trans E.2.2 iq).trans z4.2.2 iq;obtain⟨y0,y1,y2,y3,y4⟩:=XG z4.2.1;refine Af (v:=.tuple #[.agg #[zz,zz,zz,zz,zz],ii 2]) (by simp[results,results364,go_sem,y0,y1,y2,y3,y4]) rfl ?_;exact⟨rfl,ae⟩
theorem ZBq {N:Nat} (j:Nat) (b:j<5) (a:Blk w4 N 338 #[zz,zz,zz,zz,zz]) :
 Blk (w4.setCell (aq N j) (.int .i64 0)) N 338 #[zz,zz,zz,zz,zz]/\Keep [N] w4 (w4.setCell (aq N j) (.int .i64 0)):=by
 refine⟨?_,kq.setCell (.inl sq) _⟩;have:=a.set j (.int .i64 0);obtain rfl | rfl | rfl | rfl | rfl:j=0\/j=1\/j=2\/j=3\/j=4:=Z;all_goals simpa using this
theorem ZAl {B:Option Addr} (c d:Nat) {w:World} (r:Rd w A 64 (bys (List.replicate 64 0))) (s:Rd w B 64 (bys (List.replicate 64 0))) :
 cr 284 #[.slice A 64 c,.slice B 64 d] w (.tuple #[.agg #[zz,zz,zz,zz,zz],zz,ii 2]):=by
 have f:=fun W (b:kz w W)=>Jr c (r.keep b);have g:=fun W (b:kz w W)=>Jr d (s.keep b);have t:=Blk.new w 338 #[zz,zz,zz,zz,zz];go_enter func284,ntmps284
 go_wp2_with (
  (refine(f _ (kq.alloc _)).mono ?_)
  clear f;rintro e u ⟨rfl,h⟩)
 have i:kz w u:=(kq.alloc _).tO h;have j:=g _ (i.alloc (.cells #[zz,zz,zz,zz,zz] 338));clear g;have y:=t.kO h
 go_wp2_with (
  (refine j.mono ?_)
  clear j;rintro e w3 ⟨rfl,k⟩;have z:=(y.kO (kq.alloc (.cells #[zz,zz,zz,zz,zz] 338))).kO k;have a:=z.kO (kq.alloc (.cells #[zz,zz,zz,zz,zz] 338));obtain⟨x0,x1,x2,x3,x4⟩:=XG a;have I:=a.frozen 0;have J:=a.frozen 1;have K:=a.frozen 2;have L:=a.frozen 3;have M:=a.frozen 4;have N:=a.lt)
 have l:=ZBq 0 Z a;have m:=ZBq 1 Z l.1;have n:=ZBq 2 Z m.1;have o:=ZBq 3 Z n.1;have p:=ZBq 4 Z o.1;have C:=((((((((i.alloc _).tO k).alloc _)).trans l.2 iq).trans m.2 iq).trans n.2 iq).trans o.2 iq).trans p.2 iq;obtain⟨D,E,F,G,H⟩:=XG p.1;refine Af (v:=.tuple #[.agg #[zz,zz,zz,zz,zz],zz,ii 2]) (by simp[results,results284,go_sem,D,E,F,G,H]) rfl ?_;exact⟨rfl,C⟩
theorem Vv {base r:Nat} {v:Value} {t:List UInt8} (l m:List (Nat×Nat)) (f:RowAt W0 base r v bs a) (b:bs=fields (l++(k,n) :: m)++t) (c:a=widths l) (g:k=1\/k=2\/k=4) (i:n<256 ^ k) :
 Calls prog 258 #[pq r,k] W0 fun e w'=>e=.returned (.tuple #[n,.bool true])/\RowAt w' base r v bs (a+k)/\Keep [r] W0 w':=by
 have d:=YAo l k n m t i;rw[<- b,<- c] at d;have j:a+k<=bs.length:=by rw[b,KG,c];simp[fields]
 apply (Xa k f g j).mono;rw[d];exact fun _ _ h=>h
theorem YV {base r N:Nat} {v:Value} (j:Nat) (x:Value) (b:RowAt w4 base r v bs a) (e:N<base) (c:Blk w4 N ty cs) :
 RowAt (w4.setCell (aq N j) x) base r v bs a/\Blk (w4.setCell (aq N j) x) N ty (cs.setIfInBounds j x)/\Keep [N] w4 (w4.setCell (aq N j) x):=
 ⟨⟨b.blk.far (p:=⟨N,j,none⟩) (by have:=b.base;simp;omega) x,own_set b.own (fun d=>by have:=(own_mem b.own d).1;omega) x,b.base,b.le,b.few⟩,c.set j x,(Keep.refl [N] _).sc N j⟩
theorem Yk {base r N:Nat} {v:Value} {l:List Nat} (b:RowAt w3 base r v bs a) (c:Keep l w3 w4) (d:∀ x∈l,x∈r :: v.ownBlock.toList) (g:N<base) (e:Blk w3 N ty cs):Blk w4 N ty cs:=
 e.keep c (fun f=>by have:=b.fresh N (d N f);omega)
def VAP (B id mount:Nat):List UInt8:=Vk 64 (fields [(1,75),(1,83),(1,B),(1,8),(1,24),(4,id),(4,mount)])
@[simp] theorem length_supB (B a b:Nat):(VAP B a b).length=64:=Va Z (by simp[widths])
theorem KAa (B b a:Nat) (I:1<=B) (J:B<=64) (K:b<=2147483647) (L:1<=a/\a<=2147483647) (w:World) :
 Calls prog 285 #[.agg #[ii B,ii 8,ii 24,ii b,ii a]] w fun e w'=>∃ u,e=.returned (.tuple #[u,zz])/\w'.ownsRow w.heap.size 5 1 u 64 (bys (VAP B b a))/\kz w w':=by
 have s:=fun W=>KAp B b a I J K L W;have t:=Blk.new w 338 #[ii B,ii 8,ii 24,ii b,ii a];go_enter func285,ntmps285
 go_wp2_with (
  (refine(s _).mono ?_)
  clear s;rintro e v ⟨rfl,y⟩;have z:=t.kO y;clear t)
 have M:kz w v:=(kq.alloc _).tO y;have A:=YBo 64 Z v
 go_wp2_with (
  (refine A.mono ?_)
  clear A;rintro e w4 ⟨r,U,rfl,f,g⟩;have h:=z.kO g;obtain⟨i,j,l,m,n⟩:=XG h;have o:=h.lt)
 have c:=QAO (k:=1) f Z [75,83,B,8,24] (by simp;omega) sq sq #[ii 75,ii 83,ii B,ii 8,ii 24] rfl 5 rfl
 go_wp2_with (
  (refine c.mono ?_)
  clear c;rintro e V ⟨rfl,C,D⟩;have E:=g.trans D (fun x d=>.inr (f.fresh x d));clear i j l m n o h;have F:=z.kO E;obtain⟨i,j,l,m,n⟩:=XG F;have o:=F.lt;clear f D g)
 have c:=QAO (k:=4) C Z [b,a] (by simp;omega) sq sq #[ii b,ii a] rfl 2 rfl
 go_wp2_with (
  (refine c.mono ?_)
  clear c;rintro e X ⟨rfl,G,N⟩;have O:=E.trans N (fun x d=>.inr (C.fresh x d));clear i j l m n o)
 rw[Ad,ZO,ZO,<- KG] at G;have P:=JAH G;go_wp2_with (apply P.mono;rintro e Y ⟨u,rfl,H,Q⟩);have R:=KBi H Z (by simp[widths]) Z;go_wp2_with (apply R.mono;rintro e a0 ⟨rfl,S,T⟩);go_ret2;have p:=M.tO O;exact⟨u,rfl,ZC S p.size,(p.tO Q).trans T (fun x d=>.inr (AA p.size (own_mem H d).1))⟩
theorem XBl (B a b:Nat) (h1:1<=B) (h2:B<=64) (h3:a<=2147483647) (h4:1<=b/\b<=2147483647) (c:Nat) {w:World} (ha:Rd w A 64 (bys (VAP B a b))) :
 cr 364 #[.slice A 64 c] w (.tuple #[.agg #[ii B,ii 8,ii 24,ii a,ii b],zz]):=by
 have a2:=length_supB B a b;obtain⟨t,a3⟩:∃ t,VAP B a b=fields [(1,75),(1,83),(1,B),(1,8),(1,24),(4,a),(4,b)]++t:=Ja 64 _;have a4:=fun W=>KAa B a b h1 h2 h3 h4 W;generalize VAP B a b=bs at *;have a5:=fun W (hk:kz w W)=>XU c bs (ha.keep hk) Z;have a6:=Blk.new w 338 #[zz,zz,zz,zz,zz];have au:=JB a2;have p:=JB a3;clear a2 a3;go_enter func364,ntmps364
 go_wp2_with (
  (refine(a5 _ (kq.alloc _)).mono ?_)
  clear a5;rintro e w2 ⟨r,v,rfl,E,U⟩;have a7:=a6.kO U;clear a6)
 have a8:kz w w2:=(kq.alloc _).tO U;have g:w.heap.size<(w.alloc (.cells #[zz,zz,zz,zz,zz] 338)).heap.size:=sq;generalize (w.alloc (.cells #[zz,zz,zz,zz,zz] 338)).heap.size=base at *;have d:=ZP 2 E (by rw[JA au];omega)
 go_wp2_with (
  (refine d.mono ?_)
  clear d;rintro e w3 ⟨ut,rfl,-,F,V⟩)
 have a9:=Yk E V sq g a7;have aa:kz w w3:=a8.trans V (fun x f=>.inr (by have:=E.fresh x (by simp at f;simp[f]);omega));clear E a7 a8 U V;have d:=Vv (k:=1) (n:=B) [(1,75),(1,83)] [(1,8),(1,24),(4,a),(4,b)] F (JA p) rfl Z Z
 go_wp2_with (
  (refine d.mono ?_)
  clear d;rintro e w4 ⟨rfl,ab,ac⟩;have s:=Yk F ac sq g a9;have q4:=s.frozen 0;obtain⟨x0,x1,x2,x3,x4⟩:=XG s;have az:=s.lt;have G:=YV 0 (.int .i64 (B:Nat)) ab g s;have ad:=(aa.trans ac (fun x f=>.inr (by have:=F.fresh x (by simp at f;simp[f]);omega))).trans G.2.2 iq;have X:Blk (w4.setCell w.heap.size (.int .i64 (B:Nat))) w.heap.size 338 #[ii B,zz,zz,zz,zz]:=G.2.1;have H:=G.1;obtain⟨h,i,j,l,m⟩:=XG X)
 clear q4 x0 x1 x2 x3 x4 F a9 aa ab s G h i j l m;have d:=Vv (k:=1) (n:=8) [(1,75),(1,83),(1,B)] [(1,24),(4,a),(4,b)] H (JA p) rfl Z Z
 go_wp2_with (
  (refine d.mono ?_)
  clear d;rintro e w5 ⟨rfl,ae,af⟩;have y:=Yk H af sq g X;have q5:=y.frozen 1;obtain⟨x0,x1,x2,x3,x4⟩:=XG y;have b0:=y.lt;have I:=YV 1 (.int .i64 (8:Nat)) ae g y;have ag:=(ad.trans af (fun x f=>.inr (by have:=H.fresh x (by simp at f;simp[f]);omega))).trans I.2.2 iq;have Y:Blk (w5.setCell (aq w.heap.size 1) (.int .i64 (8:Nat))) w.heap.size 338 #[ii B,ii 8,zz,zz,zz]:=I.2.1;have J:=I.1;obtain⟨h,i,j,l,m⟩:=XG Y)
 clear q5 x0 x1 x2 x3 x4 H X ad ae y I h i j l m;have d:=Vv (k:=1) (n:=24) [(1,75),(1,83),(1,B),(1,8)] [(4,a),(4,b)] J (JA p) rfl Z Z
 go_wp2_with (
  (refine d.mono ?_)
  clear d;rintro e w6 ⟨rfl,ah,ai⟩;have z:=Yk J ai sq g Y;have q6:=z.frozen 2;obtain⟨x0,x1,x2,x3,x4⟩:=XG z;have b1:=z.lt;have K:=YV 2 (.int .i64 (24:Nat)) ah g z;have aj:=(ag.trans ai (fun x f=>.inr (by have:=J.fresh x (by simp at f;simp[f]);omega))).trans K.2.2 iq;have a0:Blk (w6.setCell (aq w.heap.size 2) (.int .i64 (24:Nat))) w.heap.size 338 #[ii B,ii 8,ii 24,zz,zz]:=K.2.1;have L:=K.1;obtain⟨h,i,j,l,m⟩:=XG a0)
 clear q6 x0 x1 x2 x3 x4 J Y ag ah z K h i j l m;have d:=Vv (k:=4) (n:=a) [(1,75),(1,83),(1,B),(1,8),(1,24)] [(4,b)] L (JA p) rfl Z Z
 go_wp2_with (
  (refine d.mono ?_)
  clear d;rintro e w7 ⟨rfl,ak,al⟩;have C:=Yk L al sq g a0;have q7:=C.frozen 3;obtain⟨x0,x1,x2,x3,x4⟩:=XG C;have b2:=C.lt;have M:=YV 3 (.int .i64 (a:Nat)) ak g C;have am:=(aj.trans al (fun x f=>.inr (by have:=L.fresh x (by simp at f;simp[f]);omega))).trans M.2.2 iq;have a1:Blk (w7.setCell (aq w.heap.size 3) (.int .i64 (a:Nat))) w.heap.size 338 #[ii B,ii 8,ii 24,ii a,zz]:=M.2.1;have N:=M.1;obtain⟨h,i,j,l,m⟩:=XG a1)
 clear q7 x0 x1 x2 x3 x4 L a0 aj ak C M h i j l m;have d:=Vv (k:=4) (n:=b) [(1,75),(1,83),(1,B),(1,8),(1,24),(4,a)] [] N (JA p) rfl Z Z
 go_wp2_with (
  (refine d.mono ?_)
  clear d;rintro e w8 ⟨rfl,an,ao⟩;have D:=Yk N ao sq g a1;have q8:=D.frozen 4;obtain⟨x0,x1,x2,x3,x4⟩:=XG D;have b3:=D.lt;have O:=YV 4 (.int .i64 (b:Nat)) an g D;have ap:=(am.trans ao (fun x f=>.inr (by have:=N.fresh x (by simp at f;simp[f]);omega))).trans O.2.2 iq;have ar:Blk (w8.setCell (aq w.heap.size 4) (.int .i64 (b:Nat))) w.heap.size 338 #[ii B,ii 8,ii 24,ii a,ii b]:=O.2.1;have av:=O.1;obtain⟨h,i,j,l,m⟩:=XG ar)
 clear q8 x0 x1 x2 x3 x4 N a1 am an D O
 go_wp2_with (
  (refine(a4 _).mono ?_)
  clear a4;rintro e w9 ⟨u,rfl,hu,P⟩;obtain⟨b4,uc,rfl,_⟩:=ZB hu;have aw:=ap.tO P;have o:=ar.kO P;obtain⟨x0,x1,x2,x3,x4⟩:=XG o;have f0:=o.frozen 0;have f1:=o.frozen 1;have f2:=o.frozen 2;have f3:=o.frozen 3;have f4:=o.frozen 4;have b5:=o.lt;have ax:=JJ uc c bs bs (Rd.of_own hu) (ha.keep aw))
 go_wp2_with (apply mq ax);have Q:=YV 0 (.int .i64 (B:Nat)) (av.kO P) g o;have R:=YV 1 (.int .i64 (8:Nat)) Q.1 g Q.2.1;have S:=YV 2 (.int .i64 (24:Nat)) R.1 g R.2.1;have T:=YV 3 (.int .i64 (a:Nat)) S.1 g S.2.1;have z4:=YV 4 (.int .i64 (b:Nat)) T.1 g T.2.1;have ay:=(((((ap.tO P).trans Q.2.2 iq).trans R.2.2 iq).trans S.2.2 iq).trans T.2.2 iq).trans z4.2.2 iq;have h:=Q.2.1.cell 0;have i:=R.2.1.cell 1;have j:=S.2.1.cell 2;have l:=T.2.1.cell 3;have m:=z4.2.1.cell 4;simp at h i j l m;refine Af (v:=.tuple #[.agg #[ii B,ii 8,ii 24,ii a,ii b],zz]) (by simp[results,results364,go_sem,h,i,j,l,m]) rfl ?_;exact⟨rfl,ay⟩
theorem XBO (B b a:Nat) (H:1<=B) (I:B<=64) (J:b<=2147483647) (K:1<=a/\a<=2147483647) {A':Option Addr} (c d:Nat) {w:World} (L:Rd w A 64 (bys (List.replicate 64 0))) (M:Rd w A' 64 (bys (VAP B b a))) :
 cr 284 #[.slice A 64 c,.slice A' 64 d] w (.tuple #[.agg #[ii B,ii 8,ii 24,ii b,ii a],ii 1,zz]):=by
 have o:=fun W (i:kz w W)=>Jr c (L.keep i);have p:=fun W (i:kz w W)=>XBl B b a H I J K d (M.keep i);have N:=Blk.new w 338 #[zz,zz,zz,zz,zz];go_enter func284,ntmps284
 go_wp2_with (
  (refine(o _ (kq.alloc _)).mono ?_)
  clear o;rintro e O ⟨rfl,r⟩)
 have s:kz w O:=(kq.alloc _).tO r;have t:=p _ (s.alloc (.cells #[zz,zz,zz,zz,zz] 338));clear p;have P:=N.kO r
 go_wp2_with (
  (refine t.mono ?_)
  clear t;rintro e w3 ⟨rfl,u⟩;have Q:=(P.kO (kq.alloc (.cells #[zz,zz,zz,zz,zz] 338))).kO u;have f:=Q.kO (kq.alloc (.cells #[ii B,ii 8,ii 24,ii b,ii a] 338));have y:=Blk.new w3 338 #[ii B,ii 8,ii 24,ii b,ii a];obtain⟨S,T,U,V,X⟩:=XG y;have Y:=y.lt;obtain⟨x0,x1,x2,x3,x4⟩:=XG f;have f0:=f.frozen 0;have f1:=f.frozen 1;have f2:=f.frozen 2;have f3:=f.frozen 3;have f4:=f.frozen 4;have a0:=f.lt)
 have g:=fun {W:World} {cs:Array Value} (j:Nat) (x:Value) (h:Blk W w.heap.size 338 cs)=>(⟨h.set j x,(Keep.refl [w.heap.size] W).sc w.heap.size j⟩:Blk (W.setCell (aq w.heap.size j) x) w.heap.size 338 (cs.setIfInBounds j x)/\Keep [w.heap.size] W (W.setCell (aq w.heap.size j) x));have k:=g 0 (.int .i64 (B:Nat)) f;have l:=g 1 (.int .i64 8) k.1;have m:=g 2 (.int .i64 24) l.1;have n:=g 3 (.int .i64 (b:Nat)) m.1;have z:=g 4 (.int .i64 (a:Nat)) n.1;have R:=((((((((s.alloc _).tO u).alloc _)).trans k.2 iq).trans l.2 iq).trans m.2 iq).trans n.2 iq).trans z.2 iq;have C:=k.1.cell 0;have D:=l.1.cell 1;have E:=m.1.cell 2;have F:=n.1.cell 3;have G:=z.1.cell 4;simp at C D E F G;refine Af (v:=.tuple #[.agg #[ii B,ii 8,ii 24,ii b,ii a],ii 1,zz]) (by simp[results,results284,go_sem,C,D,E,F,G]) rfl ?_;exact⟨rfl,R⟩