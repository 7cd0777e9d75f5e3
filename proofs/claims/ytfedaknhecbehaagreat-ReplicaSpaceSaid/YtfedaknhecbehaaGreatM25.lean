/- Lemmas of the proof, with their conditions. -/
import Derived.Test.YtfedaknhecbehaaGreatM09
import Derived.Test.YtfedaknhecbehaaGreatM22
import Derived.Test.YtfedaknhecbehaaGreatM11
namespace Go.Proofs.YtfedaknhecbehaaGreat
open Tryz Go.RowKit
variable {A BA OA:Option Addr} {n g B:Nat} {w:World} {us:List (Nat×Nat)}
set_option linter.all false
set_option maxHeartbeats 4000000
set_option maxRecDepth 50000
theorem KAy (z:Nat) (a:z<=1) (w:World):cq 437 #[z] w (.bool false):=by
 obtain rfl | rfl:z=0\/z=1:=Z
 all_goals
  go_enter func437,ntmps437
  go_wp2
  go_ret;exact⟨rfl,rfl⟩
theorem XAS (c:Nat) (zs:List Nat) (a:Rd w A n (XP zs)) (h:∀ z∈zs,z<=1) (p:n<=1000000) :
 cq 439 #[.slice A n c,.func (.func 437) #[] #[]] w (ii (-1)):=by
 have d:zs.length=n:=uq a.1
 have l:=ZB d;clear d;go_enter func439,ntmps439;go_wp2_with fail;go_loopw [5,8] (fun _ i wr=>∃ k:Nat,k<=n/\i=.int .i64 k/\w=wr) (fun _ i _=>n-(intOf i).toNat)
 case atStart=>exact⟨0,AP _,rfl,rfl⟩
 obtain⟨k,q,rfl,rfl⟩:=hrel;by_cases f:k<n
 . have g:k<zs.length:=by rw[ZA l];exact f
   have r:((k:Nat):Int)<(n:Nat):=Z
   obtain⟨b,o,u,rfl,j,s,t⟩:=a.at_ f;simp only[XP,Aa,AC g,Az,Ab] at j;subst j;have m:=KAy _ (h _ (AN g)) w;generalize zs[k]=z at *;go_wp2_with (refine m.mono ?_;rintro e w' ⟨rfl,rfl⟩);go_roundw;case rel=>exact⟨k+1,Z,by go_num,trivial⟩
   case measure=>simp[intOf];omega
 obtain rfl:n=k:=Z
 go_wp2
 go_ret;exact⟨rfl,rfl⟩
theorem QAE (c:Nat) (zs:List Nat) (d:Rd w A n (XP zs)) (h:∀ z∈zs,z<=1) (f:n<=1000000) :
 cq 395 #[.slice A n c,n] w (.bool true):=by
 have a:=XAS c zs d h f
 have b:cq 404 #[.slice A n c,.func (.func 437) #[] #[]] w (.bool false):=by
  go_enter func404,ntmps404;go_wp2_with (refine a.mono ?_;clear a;rintro e w' ⟨rfl,rfl⟩);go_ret;exact⟨rfl,rfl⟩
 go_enter func395,ntmps395;go_wp2_with (refine b.mono ?_;clear b;rintro e w' ⟨rfl,rfl⟩);go_ret;exact⟨rfl,rfl⟩
structure PReg where
 gen:Nat
 view:Nat
 mode:Nat
 epoch:Nat
 seq:Nat
 done:Nat
 pos:PPos
def PReg.May (r:PReg):Prop:=(1<=r.gen/\r.gen<=2147483647)/\(1<=r.view/\r.view<=2147483647)/\(r.mode=1\/r.mode=2)/\r.epoch<=2147483647/\r.seq<=2147483647/\r.done<=r.seq/\r.pos.May
def PReg.cs (r:PReg) (B O S:Value):List Value:=
 [.int .i64 r.gen,.int .i64 r.view,.int .i64 r.mode,.int .i64 r.epoch,.int .i64 r.seq,.int .i64 r.done,.int .i64 r.pos.seg,.int .i64 r.pos.off,.int .i64 r.pos.lsn,.int .i64 r.pos.prev,.int .i64 r.pos.mount,B,O,S]
theorem YF {t:TypeId} {a b c d e f i j k l m n o p:Value} (h:Blk w g t #[a,b,c,d,e,f,i,j,k,l,m,n,o,p]) :
 cl w g a/\cl w (aq g 1) b/\cl w (aq g 2) c/\cl w (aq g 3) d/\cl w (aq g 4) e/\cl w (aq g 5) f/\cl w (aq g 6) i/\cl w (aq g 7) j /\
 cl w (aq g 8) k/\cl w (aq g 9) l/\cl w (aq g 10) m/\cl w (aq g 11) n/\cl w (aq g 12) o/\cl w (aq g 13) p:=
 ⟨uq (h.cell 0),uq (h.cell 1),uq (h.cell 2),uq (h.cell 3),uq (h.cell 4),uq (h.cell 5),uq (h.cell 6),uq (h.cell 7),uq (h.cell 8),uq (h.cell 9),uq (h.cell 10),uq (h.cell 11),uq (h.cell 12),uq (h.cell 13)⟩
theorem JU (n lo hi:Int) (w:World) (h:lo<=n/\n<=hi):cq 396 #[ii n,ii lo,ii hi] w (.bool true):=by
 obtain⟨a,b⟩:=h;go_enter func396,ntmps396
 go_wp2
 go_ret;exact⟨rfl,rfl⟩
theorem XAK {r:PReg} (h:r.May) (BA:Option Addr) (i j:Nat) (OA:Option Addr) (k l:Nat) (m:Option Addr) (n o:Nat) (w:World) :
 cr 394 #[.agg (r.cs (.slice BA i j) (.slice OA k l) (.slice m n o)).toArray] w (.bool true):=by
 obtain⟨p,view,mode,q,a,s,u,v,y,z,A⟩:=r;obtain⟨B,C,t,D,E,F,G⟩:=h;simp only[PReg.cs] at *;have b:=fun W=>JU p 1 2147483647 W ⟨Z,Z⟩;have c:=fun W=>JU view 1 2147483647 W ⟨Z,Z⟩;have d:=fun W=>JU q 0 2147483647 W ⟨Z,Z⟩;have f:=fun W=>JU a 0 2147483647 W ⟨Z,Z⟩;have g:=fun W=>JU s 0 a W ⟨Z,Z⟩;rcases t with rfl | rfl
 all_goals
  go_enter func394,ntmps394;go_wp2_with (first | (refine(b _).mono ?_;clear b;rintro e w' ⟨rfl,rfl⟩) | (refine(c _).mono ?_;clear c;rintro e w' ⟨rfl,rfl⟩) | (refine(d _).mono ?_;clear d;rintro e w' ⟨rfl,rfl⟩) | (refine(f _).mono ?_;clear f;rintro e w' ⟨rfl,rfl⟩) | (refine(g _).mono ?_;clear g;rintro e w' ⟨rfl,rfl⟩));go_ret;exact⟨rfl,kq.alloc _⟩
def VW (us:List (Nat×Nat)) (s:Nat):Prop:=us.length=8/\(∀ u∈us,u.1<=2/\u.2<=2147483647)/\∀ k (h:k<us.length),(us[k].1=1↔k=s)
theorem XAl (p:GeomAt w g B) {r:PReg} (h:r.May) (l:Nat) (F:List Nat) (m:Nat) (G:List Nat) (hb:Rd w BA (pgs B) (XP F)) (ho:Rd w OA (pgs B) (XP G)) (a0:∀ z∈F,z<=1) (a1:∀ z∈G,z<=1)
 (s q:Nat) (H:Rd w (some s) (8*2) (us.flatMap Vw)) (ag:VW us r.pos.seg) :
 cr 340 #[pq g,.agg (r.cs (.slice BA (pgs B) l) (.slice OA (pgs B) m) (.slice (some s) 8 q)).toArray] w (.bool true):=by
 have ap:=(ZD p.pos p.few).2;have a2:=fun W=>XAK h BA (pgs B) l OA (pgs B) m (some s) 8 q W;have a3:=fun W (c:kz w W)=>QAc (p.kO c) h.2.2.2.2.2.2;have I:=fun W (c:kz w W)=>PagesG_is W g B (p.kO c);have a4:=fun W (c:kz w W)=>ConfigG_is W g B (p.kO c);have a5:=fun W (c:kz w W)=>QAE l F (hb.keep c) a0 Z;have a6:=fun W (c:kz w W)=>QAE m G (ho.keep c) a1 Z;obtain⟨a7,ah,ai⟩:=ag;have aj:=ZB a7;have ar:r.pos.seg<=7:=h.2.2.2.2.2.2.1;clear a7 h hb ho a0 a1;obtain⟨J,view,mode,L,M,N,f,O,Q,R,S⟩:=r;simp only[PReg.cs,PPos.cs] at *;generalize pgs B=P at *;have b:=Blk.new w 240 #[ii J,ii view,ii mode,ii L,ii M,ii N,ii f,ii O,ii Q,ii R,ii S,.slice BA P l,.slice OA P m,.slice (some s) 8 q];obtain⟨w1,T⟩:=ex (w.alloc (.cells #[ii J,ii view,ii mode,ii L,ii M,ii N,ii f,ii O,ii Q,ii R,ii S,.slice BA P l,.slice OA P m,.slice (some s) 8 q] 240));have d:kz w w1:=by rw[T];exact kq.alloc _
 go_enter func340,ntmps340;go_wp2_with fail;rw[<- T] at b ⊢;clear T;refine ZT (fun w'=>cl w' w.heap.size (ii J)/\cl w' (aq w.heap.size 1) (ii view)/\cl w' (aq w.heap.size 2) (ii mode)/\cl w' (aq w.heap.size 3) (ii L)/\cl w' (aq w.heap.size 4) (ii M)/\cl w' (aq w.heap.size 5) (ii N)/\cl w' (aq w.heap.size 6) (ii f)/\cl w' (aq w.heap.size 7) (ii O)/\cl w' (aq w.heap.size 8) (ii Q)/\cl w' (aq w.heap.size 9) (ii R)/\cl w' (aq w.heap.size 10) (ii S)/\cl w' (aq w.heap.size 11) (.slice BA P l)/\cl w' (aq w.heap.size 12) (.slice OA P m)/\cl w' (aq w.heap.size 13) (.slice (some s) 8 q)) 37 [[0,1,2,3],[4,5,6,7,8,9,10],[11,12,13,14,15,16,17],[18],[19,20,21,22,23,24,25],[26],[27,28,29,30,31,32,33,34],[35,36]] (YF b.drew) ?_;simp only[PI];iterate 4 refine wG ?_
 refine JB rq fun K a=>?_;go_wp2_with (refine(a2 _).mono ?_;rintro e w2 ⟨rfl,a8⟩);have v:=(Keep.refl [] w1).drew.tO a8;refine a _ _ (YF (b.kO v)) ?_
 iterate 6 refine wG ?_
 refine JB rq fun K a=>?_;go_wp2_with (refine(a3 _ (d.tO v)).mono ?_;rintro e w3 ⟨rfl,a9⟩);have A:=v.tO a9;refine a _ _ (YF (b.kO A)) ?_
 iterate 6 refine wG ?_
 refine JB rq fun K a=>?_;go_wp2_with (refine(I _ (d.tO A)).mono ?_;rintro e w4 ⟨rfl,aa⟩);have n:=A.tO aa;refine a _ _ (YF (b.kO n)) ?_
 try simp only[Act.put,PU]
 refine JB rq fun K a=>?_;go_wp2_with (refine(a5 _ (d.tO n)).mono ?_;rintro e w5 ⟨rfl,rfl⟩);refine a _ _ (YF (b.kO n)) ?_
 iterate 6 refine wG ?_
 refine JB rq fun K a=>?_;go_wp2_with (refine(I _ (d.tO n)).mono ?_;rintro e w6 ⟨rfl,ab⟩);have o:=n.tO ab;refine a _ _ (YF (b.kO o)) ?_
 try simp only[Act.put,PU]
 refine JB rq fun K a=>?_;go_wp2_with (refine(a6 _ (d.tO o)).mono ?_;rintro e w7 ⟨rfl,rfl⟩);refine a _ _ (YF (b.kO o)) ?_
 iterate 7 refine wG ?_
 refine JB rq fun K a=>?_;go_wp2_with (refine(a4 _ (d.tO o)).mono ?_;rintro e w8 ⟨rfl,ac⟩);have C:=o.tO ac;have ak:=fun W=>KE (P:=prog) underlying28 1 rfl isAgg3 #[ii B,ii 8,ii 24] rfl W;refine a _ _ (YF (b.kO C)) ?_
 iterate 1 refine wG ?_
 refine VB ?_;have U:=b.kO C;have ad:=(YF U).2.2.2.2.2.2.2.2.2.2.2.2.2;have al:=U.lt;go_wp2_with fail;clear ad al;go_loopw [5,6,49] (fun _ _ i wr=>∃ k:Nat,k<=8/\i=.int .i64 k/\kz w8 wr) (fun _ _ i _=>8-(intOf i).toNat)
 case atStart=>exact⟨0,AP _,rfl,kq⟩
 clear a2 a3 I a4 a5 a6 ak v A n o a8 a9 aa ab ac b;obtain⟨k,c,rfl,a⟩:=hrel;have ae:=U.kO a;obtain⟨-,-,-,-,-,-,c6,-,-,-,-,-,-,ad⟩:=YF ae;have au:=ae.lt;by_cases am:k<8
 . have t:k<us.length:=by rw[ZA aj];exact am
   have av:((k:Nat):Int)<8:=Z
   have V:=(d.tO C).tO a;have aw:s<wr.heap.size:=(VI JJ (H.keep V) t (j:=0) Z).1;have d0:=(VI JJ (H.keep V) t (j:=0) Z).2;have d1:=(VI JJ (H.keep V) t (j:=1) Z).2;obtain⟨u1,u2⟩:=ah _ (AN t);have X:=ai k t;generalize us[k]=u at *;obtain⟨x,y⟩:=u;simp only[Vw,Bj,BX,BK] at d0 d1 u1 u2 X;have D:=fun W=>JU x 0 2 W ⟨Z,Z⟩;have E:=fun W=>JU y 0 2147483647 W ⟨Z,Z⟩;have af:kz w8 (wr.alloc (.cells #[ii x,ii y] 166)):=a.alloc _;by_cases Y:x=1
   . obtain rfl:=X.1 Y
     subst Y;go_wp2_with (first | (refine(D _).mono ?_;clear D;rintro e w' ⟨rfl,rfl⟩) | (refine(E _).mono ?_;clear E;rintro e w' ⟨rfl,rfl⟩));go_roundw;case rel=>exact⟨k+1,Z,by go_num,af⟩
     case measure=>simp[intOf];omega
   have ax:¬ k=f:=fun e=>Y (X.2 e)
   have an:¬ ((x:Nat):Int)=1:=Z
   have ao:¬ ((k:Nat):Int)=(f:Nat):=Z
   have b1:(((x:Nat):Int) == 1)=false:=uq an
   have b2:(((k:Nat):Int) == ((f:Nat):Int))=false:=uq ao
   have b3:(!(((x:Nat):Int) == 1) == (((k:Nat):Int) == ((f:Nat):Int)))=false:=by rw[b1,b2];rfl
   go_wp2_with (first | (refine(D _).mono ?_;clear D;rintro e w' ⟨rfl,rfl⟩) | (refine(E _).mono ?_;clear E;rintro e w' ⟨rfl,rfl⟩));go_roundw;case rel=>exact⟨k+1,Z,by go_num,af⟩
   case measure=>simp[intOf];omega
 obtain rfl:8=k:=Z
 go_wp2
 go_ret;exact⟨rfl,(d.tO C).tO a⟩
theorem KBn (z:Int):∃ m:Nat,m<256 ^ 4/\bits BinOp.and IntKind.i64 z 4294967295=(m:Nat):=by
 refine⟨(BitVec.ofInt 64 z &&& BitVec.ofInt 64 4294967295).toNat,?_,?_⟩
 . rw[Cv]
   have a:(BitVec.ofInt 64 4294967295).toNat=4294967295:=by decide
   rw[a];have:=Nat.and_le_right (n:=(BitVec.ofInt 64 z).toNat) (m:=4294967295);omega
 show IntKind.i64.wrap ((BitVec.ofInt 64 z &&& BitVec.ofInt 64 4294967295).toNat:Int)=_
 have a:(BitVec.ofInt 64 4294967295).toNat=4294967295:=by decide
 have:(BitVec.ofInt 64 z &&& BitVec.ofInt 64 4294967295).toNat<=4294967295:=by
  rw[Cv,a];exact Nat.and_le_right
 rw[AI];omega
theorem ZBL (c:Nat) (zs:List Int) (g:Rd w A n (KW zs)) (C:∀ z∈zs,-1<=z/\z<4096) (N:n<=15) :
 Calls prog 221 #[.slice A n c] w fun e w'=>∃ u bs,e=.returned (.tuple #[u,zz])/\bs.length=64/\w'.ownsRow w.heap.size 5 1 u 64 (bys bs)/\kz w w':=by
 have h:zs.length=n:=by simpa [KW] using g.1
 have D:=ZB h;clear h;have O:((n:Nat):Int)<=15:=Z
 have j:=VBp 64 Z w;go_enter func221,ntmps221;go_wp2_with (refine j.mono ?_;clear j;rintro e w1 ⟨r,E,rfl,d,a⟩);go_loopw [6,13] (fun _ i wr=>∃ k:Nat,k<=n/\i=.int .i64 k/\RowX wr w.heap.size r E 64 (4*k)/\kz w wr) (fun _ i _=>n-(intOf i).toNat)
 case atStart=>exact⟨0,AP _,rfl,d,a⟩
 clear d a;obtain⟨k,P,rfl,d,a⟩:=hrel;by_cases l:k<n
 . have p:k<zs.length:=by rw[ZA D];exact l
   have Q:((k:Nat):Int)<(n:Nat):=Z
   obtain⟨b,o,u,rfl,f,R,q⟩:=(g.keep a).at_ l;simp only[KW,Aa,AC p,Az,Ab] at f;subst f;obtain⟨S,T⟩:=C _ (AN p);generalize zs[k]=z at *;replace q:cl wr (aq b (o+k)) (ii z):=q;obtain⟨m,s,U⟩:=KBn z;have t:=JBp (k:=4) d Z [m] (uq s) sq (by simp;omega) #[ii m] rfl 1 rfl;clear s
   go_wp2_with (
    (refine t.mono ?_)
    clear t;rintro e F ⟨rfl,G,H⟩)
   go_roundw;case rel=>exact⟨k+1,Z,by go_num,G,a.trans H (fun x f=>.inr (d.fresh x f))⟩
   case measure=>simp[intOf];omega
 obtain rfl:n=k:=Z
 have v:=QBi d;go_wp2_with (refine v.mono ?_;clear v;rintro e V ⟨u,bs,rfl,I,y,J⟩);have B:=YBo I y Z Z;go_wp2_with (refine B.mono ?_;clear B;rintro e F ⟨cs,rfl,K,L,M⟩);go_ret2;exact⟨u,cs,rfl,K,VC L a.size,(a.tO J).trans M (fun x f=>.inr (AB a.size (own_mem y f).1))⟩
def YAS (zs:List Nat):Nat->Nat
 | 0=>0
 | k+1=>YAS zs k+zs.getD k 0*2 ^ k
theorem KAF (zs:List Nat) (h:∀ z∈zs,z<=1):∀ k,YAS zs k<2 ^ k
 | 0=>by simp[YAS]
 | k+1=>by
   have c:=KAF zs h k
   have b:zs.getD k 0<=1:=by
    rw[AA];rcases BG k zs.length with a | a
    . rw[AC a];exact h _ (AN a)
    rw[Bc a];exact AP _
   have d:zs.getD k 0*2 ^ k<=1*2 ^ k:=BJ _ b;simp only[YAS,Cg];omega
theorem JBh {q z k:Nat} (a:q<2 ^ k):q ||| z*2 ^ k=q+z*2 ^ k:=by
 have:=Nat.two_pow_add_eq_or_of_lt a z;rw[Nat.or_comm,CM,<- this];omega
theorem KAX (c:Nat) (zs:List Nat) (d:Rd w A n (XP zs)) (h:∀ z∈zs,z<=1) (H:n<=8) :
 cq 341 #[.slice A n c] w (YAS zs n:Nat):=by
 have f:zs.length=n:=uq d.1
 have B:=ZB f;clear f;have g:=KAF zs h;go_enter func341,ntmps341;go_wp2_with fail;go_loopw [2,3,4,7] (fun s _ _ i wr=>∃ k:Nat,k<=n/\i=.int .i64 k/\s=.int .i64 (YAS zs k:Nat)/\w=wr) (fun _ _ _ i _=>n-(intOf i).toNat)
 case atStart=>exact⟨0,AP _,rfl,rfl,rfl⟩
 obtain⟨k,I,rfl,rfl,rfl⟩:=hrel;by_cases j:k<n
 . have a:k<zs.length:=by rw[ZA B];exact j
   have J:((k:Nat):Int)<(n:Nat):=Z
   obtain⟨b,o,u,rfl,l,K,L⟩:=d.at_ j;simp only[XP,Aa,AC a,Az,Ab] at l;subst l;have C:=h _ (AN a);have p:=g k
   have r:YAS zs (k+1)=YAS zs k+zs[k]*2 ^ k:=by
    simp only[YAS];rw[AA,AC a];rfl
   have t:=ZB r;clear r;generalize YAS zs k=q at *;generalize zs[k]=z at *;have D:(2:Nat) ^ k<=256:=CF (n:=2) Z (show k<=8 from Z);have E:z*2 ^ k<=1*2 ^ k:=BJ _ C
   have v:wrap64 ((z:Nat)*2 ^ k:Int)=((z*2 ^ k:Nat):Int):=by
    have e:((z:Nat)*2 ^ k:Int)=((z*2 ^ k:Nat):Int):=sq
    rw[e];have F:z*2 ^ k<=256:=Z
    generalize z*2 ^ k=y at F ⊢;unfold wrap64;omega
   have M:bits BinOp.or IntKind.i64 (q:Nat) (wrap64 ((z:Nat)*2 ^ k:Int))=((q+z*2 ^ k:Nat):Int):=by
    rw[v,ZBT q (z*2 ^ k) Z Z,JBh p,AI];omega
   have G:Hid (q+z*2 ^ k=YAS zs (k+1)):=ZB (ZA t).symm;generalize q+z*2 ^ k=m at *;clear v E D t p g;go_wp2_with fail;go_roundw;case rel=>exact⟨k+1,Z,by go_num,by rw[<- ZA G],trivial⟩
   case measure=>simp[intOf];omega
 obtain rfl:n=k:=Z
 go_wp2_with fail;go_ret;exact⟨rfl,rfl⟩
def YAq (u:Nat×Nat):List (Nat×Nat):=[(1,u.1),(4,u.2)]
def VBl (r:PReg) (p:Nat) (bz oz:List Nat) (us:List (Nat×Nat)):List (Nat×Nat):=
 [(1,75),(1,67),(4,r.gen),(4,r.view),(1,r.mode),(4,r.epoch),(4,r.seq),(4,r.done),(1,r.pos.seg),(1,r.pos.off),(4,r.pos.lsn),(4,r.pos.prev),(4,r.pos.mount),(1,YAS bz p),(1,YAS oz p)]++us.flatMap YAq
def VBo (r:PReg) (p:Nat) (bz oz:List Nat) (us:List (Nat×Nat)):List UInt8:=Qp 128 (fields (VBl r p bz oz us))
theorem Qd (l m:List (Nat×Nat)):widths (l++m)=widths l+widths m:=by
 rw[<- length_fields,<- length_fields,<- length_fields,QI,AE]
theorem Kx (us:List (Nat×Nat)):widths (us.flatMap YAq)=5*us.length:=by
 induction us with
 | nil=>rfl
 | cons u us ih=>rw[BE,Qd,ih];simp[YAq,widths];omega
theorem Qu (r:PReg) (p:Nat) (a b:List Nat) (us:List (Nat×Nat)):widths (VBl r p a b us)=39+5*us.length:=by
 unfold VBl;rw[Qd,Kx];simp[widths]
theorem Kj (r:PReg) (p:Nat) (a b:List Nat) (h:us.length=8):(VBo r p a b us).length=128:=JZ Z (by rw[length_fields,Qu];omega)
theorem KBG (hg:GeomAt w g B) {r:PReg} (h:r.May) (bc:Nat) (V:List Nat) (oc:Nat) (X:List Nat) (hb:Rd w BA (pgs B) (XP V)) (ho:Rd w OA (pgs B) (XP X)) (a6:∀ z∈V,z<=1) (a7:∀ z∈X,z<=1)
 (s sc:Nat) (hs:Rd w (some s) (8*2) (us.flatMap Vw)) (b6:VW us r.pos.seg) :
 Calls prog 226 #[pq g,.agg (r.cs (.slice BA (pgs B) bc) (.slice OA (pgs B) oc) (.slice (some s) 8 sc)).toArray] w fun e w'=>∃ u,e=.returned (.tuple #[u,zz])/\w'.ownsRow w.heap.size 5 1 u 128 (bys (VBo r (pgs B) V X us))/\kz w w':=by
 have cu:=(ZD hg.pos hg.few).2;have b7:=fun W (q:kz w W)=>XAl (hg.kO q) h bc V oc X (hb.keep q) (ho.keep q) a6 a7 s sc (hs.keep q) b6;have b8:=fun W (q:kz w W)=>RegionLenG_is W g B (hg.kO q);have ab:=fun W (q:kz w W)=>KAX bc V (hb.keep q) a6 Z;have ac:=fun W (q:kz w W)=>KAX oc X (ho.keep q) a7 Z;obtain⟨b9,ce,-⟩:=b6;have ad:=ZB b9;obtain⟨b1,cv,cw,cx,cy,cz,d2,d3,d4,d5,d6⟩:=h;have ba:=KAF V a6 (pgs B);have bb:=KAF X a7 (pgs B);have h5:(2:Nat) ^ pgs B<=256:=CF (n:=2) Z (show pgs B<=8 from Z);clear b9 hb ho a6 a7;obtain⟨c,view,mode,d,f,l,o,p,t,v,A⟩:=r;simp only[PReg.cs,PPos.cs] at *;generalize pgs B=P at *;obtain⟨Y,ae⟩:=ex (YAS V P);obtain⟨q2,af⟩:=ex (YAS X P);rw[<- ae] at ab ba;rw[<- af] at ac bb;have cf:=ZB ae;have cg:=ZB af;have d7:Y<256:=Z
 have d8:q2<256:=Z
 clear ae af ba bb h5;have bd:=Blk.new w 240 #[ii c,ii view,ii mode,ii d,ii f,ii l,ii o,ii p,ii t,ii v,ii A,.slice BA P bc,.slice OA P oc,.slice (some s) 8 sc];obtain⟨w1,a8⟩:=ex (w.alloc (.cells #[ii c,ii view,ii mode,ii d,ii f,ii l,ii o,ii p,ii t,ii v,ii A,.slice BA P bc,.slice OA P oc,.slice (some s) 8 sc] 240));have ch:kz w w1:=by rw[a8];exact kq.alloc _
 rw[<- a8] at bd;go_enter func226,ntmps226
 go_wp2_with (
  (refine(b7 _ (kq.alloc _)).mono ?_)
  clear b7;rintro e D ⟨rfl,a3⟩;rw[<- a8] at a3;clear a8;have a9:=ch.tO a3;have a0:=bd.kO a3)
 go_wp2_with (
  (refine(b8 _ a9).mono ?_)
  rintro e w3 ⟨rfl,rfl⟩)
 have bf:=ZBi 128 Z D
 go_wp2_with (
  (refine bf.mono ?_)
  clear bf;rintro e w4 ⟨rr,rv,rfl,a1,bg⟩)
 have a:=JAJ (k:=1) a1 Z [75,67] sq sq (by simp[widths]) #[ii 75,ii 67] rfl 2 rfl
 go_wp2_with (
  (refine a.mono ?_)
  clear a;rintro e w5 ⟨rfl,bh,bi⟩
  have ag:RowZ w5 D.heap.size rr rv 128 (fields [(1,75),(1,67)]):=by
   have h:=bh;rw[Am,QO] at h;exact h
  clear bh;have ah:=bg.trans bi (fun x b=>.inr (a1.fresh x b));clear bi bg a1;have ai:=a0.kO ah;obtain⟨E,F,G,H,I,J,L,M,N,O,Q,R,S,C⟩:=YF ai;have m:=ai.lt;clear ai)
 have a:=JAJ (k:=4) ag Z [c,view] (by simp;omega) sq (by simp[widths]) #[ii c,ii view] rfl 2 rfl
 go_wp2_with (
  (refine a.mono ?_)
  clear a;rintro e w6 ⟨rfl,bj,bk⟩
  have aj:RowZ w6 D.heap.size rr rv 128 (fields [(1,75),(1,67),(4,c),(4,view)]):=by
   have h:=bj;rw[QO,<- QI] at h;exact h
  clear bj;have ak:=ah.trans bk (fun x b=>.inr (ag.fresh x b));clear bk ah ag;clear E F G H I J L M N O Q R S C m;have al:=a0.kO ak;obtain⟨E,F,G,H,I,J,L,M,N,O,Q,R,S,C⟩:=YF al;have m:=al.lt;clear al)
 have a:=JAJ (k:=1) aj Z [mode] (by simp;omega) sq (by simp[widths]) #[ii mode] rfl 1 rfl
 go_wp2_with (
  (refine a.mono ?_)
  clear a;rintro e w7 ⟨rfl,bl,bm⟩
  have am:RowZ w7 D.heap.size rr rv 128 (fields [(1,75),(1,67),(4,c),(4,view),(1,mode)]):=by
   have h:=bl;rw[QO,<- QI] at h;exact h
  clear bl;have an:=ak.trans bm (fun x b=>.inr (aj.fresh x b));clear bm ak aj;clear E F G H I J L M N O Q R S C m;have ao:=a0.kO an;obtain⟨E,F,G,H,I,J,L,M,N,O,Q,R,S,C⟩:=YF ao;have m:=ao.lt;clear ao)
 have a:=JAJ (k:=4) am Z [d,f,l] (by simp;omega) sq (by simp[widths]) #[ii d,ii f,ii l] rfl 3 rfl
 go_wp2_with (
  (refine a.mono ?_)
  clear a;rintro e w8 ⟨rfl,bn,bo⟩
  have ap:RowZ w8 D.heap.size rr rv 128 (fields [(1,75),(1,67),(4,c),(4,view),(1,mode),(4,d),(4,f),(4,l)]):=by
   have h:=bn;rw[QO,<- QI] at h;exact h
  clear bn;have ar:=an.trans bo (fun x b=>.inr (am.fresh x b));clear bo an am;clear E F G H I J L M N O Q R S C m;have au:=a0.kO ar;obtain⟨E,F,G,H,I,J,L,M,N,O,Q,R,S,C⟩:=YF au;have m:=au.lt;clear au)
 have a:=JAJ (k:=1) ap Z [o,p] (by simp;omega) sq (by simp[widths]) #[ii o,ii p] rfl 2 rfl
 go_wp2_with (
  (refine a.mono ?_)
  clear a;rintro e w9 ⟨rfl,bp,bq⟩
  have av:RowZ w9 D.heap.size rr rv 128 (fields [(1,75),(1,67),(4,c),(4,view),(1,mode),(4,d),(4,f),(4,l),(1,o),(1,p)]):=by
   have h:=bp;rw[QO,<- QI] at h;exact h
  clear bp;have aw:=ar.trans bq (fun x b=>.inr (ap.fresh x b));clear bq ar ap;clear E F G H I J L M N O Q R S C m;have ax:=a0.kO aw;obtain⟨E,F,G,H,I,J,L,M,N,O,Q,R,S,C⟩:=YF ax;have m:=ax.lt;clear ax)
 have a:=JAJ (k:=4) av Z [t,v,A] (by simp;omega) sq (by simp[widths]) #[ii t,ii v,ii A] rfl 3 rfl
 go_wp2_with (
  (refine a.mono ?_)
  clear a;rintro e br ⟨rfl,bs,bt⟩
  have ay:RowZ br D.heap.size rr rv 128 (fields [(1,75),(1,67),(4,c),(4,view),(1,mode),(4,d),(4,f),(4,l),(1,o),(1,p),(4,t),(4,v),(4,A)]):=by
   have h:=bs;rw[QO,<- QI] at h;exact h
  clear bs;have aa:=aw.trans bt (fun x b=>.inr (av.fresh x b));clear bt aw av;clear E F G H I J L M N O Q R S C m;have T:=a0.kO aa)
 refine ZT (fun w'=>cl w' (aq w.heap.size 11) (.slice BA P bc)/\cl w' (aq w.heap.size 12) (.slice OA P oc)) 8 [[0,1,2,4,5],[3],[6],[7]] ⟨(YF T.drew).2.2.2.2.2.2.2.2.2.2.2.1,(YF T.drew).2.2.2.2.2.2.2.2.2.2.2.2.1⟩ ?_;simp only[PI];iterate 5 refine wG ?_
 have az:kz w br.drew:=(a9.tO aa).drew;refine JB rq fun K U=>?_;go_wp2_with (refine(ab _ az).mono ?_;rintro e b0 ⟨rfl,rfl⟩);refine U _ _ (⟨(YF T.drew).2.2.2.2.2.2.2.2.2.2.2.1,(YF T.drew).2.2.2.2.2.2.2.2.2.2.2.2.1⟩) ?_
 try simp only[Act.put,PU]
 refine JB rq fun K U=>?_;go_wp2_with (refine(ac _ az).mono ?_;rintro e b0 ⟨rfl,rfl⟩);refine U _ _ (⟨(YF T.drew).2.2.2.2.2.2.2.2.2.2.2.1,(YF T.drew).2.2.2.2.2.2.2.2.2.2.2.2.1⟩) ?_
 try simp only[Act.put,PU]
 refine JB rq fun K U=>?_;go_wp2_with fail;refine U _ _ (⟨(YF (T.drew.kO (kq.alloc _))).2.2.2.2.2.2.2.2.2.2.2.1,(YF (T.drew.kO (kq.alloc _))).2.2.2.2.2.2.2.2.2.2.2.2.1⟩) ?_
 try simp only[Act.put,PU]
 refine VB ?_;have bu:=ay.kO kq.drew;have a:=JAJ (k:=1) bu Z [Y,q2] (by simp;omega) sq (by simp[widths]) #[ii Y,ii q2] rfl 2 rfl
 go_wp2_with (
  (refine a.mono ?_)
  clear a;rintro e b0 ⟨rfl,bv,bw⟩
  have bx:RowZ b0 D.heap.size rr rv 128 (fields [(1,75),(1,67),(4,c),(4,view),(1,mode),(4,d),(4,f),(4,l),(1,o),(1,p),(4,t),(4,v),(4,A),(1,Y),(1,q2)]):=by
   have h:=bv;rw[QO,<- QI] at h;exact h
  clear bv;have b2:=aa.drew.trans bw (fun x b=>.inr (ay.fresh x b));have b3:=a0.kO b2;have C:=(YF b3).2.2.2.2.2.2.2.2.2.2.2.2.2;have m:=b3.lt;clear ab ac b8 az bu aa T ay bw)
 clear C m;go_loopw [8,74] (fun _ i wr=>∃ k:Nat,k<=8/\i=.int .i64 k/\RowZ wr D.heap.size rr rv 128 (fields ([(1,75),(1,67),(4,c),(4,view),(1,mode),(4,d),(4,f),(4,l),(1,o),(1,p),(4,t),(4,v),(4,A),(1,Y),(1,q2)]++(us.take k).flatMap YAq))/\kz D wr) (fun _ i _=>8-(intOf i).toNat)
 case atStart=>exact⟨0,AP _,rfl,uq bx,b2⟩
 clear b3 b2 bx;obtain⟨k,q,rfl,a1,U⟩:=hrel;by_cases m:k<8
 . have a4:k<us.length:=by rw[ZA ad];exact m
   have d9:((k:Nat):Int)<8:=Z
   have a2:=a9.tO U;have da:s<wr.heap.size:=(VI JJ (hs.keep a2) a4 (j:=0) Z).1;have d0:=(VI JJ (hs.keep a2) a4 (j:=0) Z).2;have d1:=(VI JJ (hs.keep a2) a4 (j:=1) Z).2;obtain⟨u1,u2⟩:=ce _ (AN a4)
   have bz:(us.take (k+1)).flatMap YAq=(us.take k).flatMap YAq++YAq us[k]:=by
    rw[AO a4,BM,DR]
   have c2:widths ([(1,75),(1,67),(4,c),(4,view),(1,mode),(4,d),(4,f),(4,l),(1,o),(1,p),(4,t),(4,v),(4,A),(1,Y),(1,q2)]++(us.take k).flatMap YAq)=39+5*k:=by
    rw[Qd,Kx,BH,CO Z];simp[widths]
   have ci:=ZB bz;clear bz;generalize c4:[(1,75),(1,67),(4,c),(4,view),(1,mode),(4,d),(4,f),(4,l),(1,o),(1,p),(4,t),(4,v),(4,A),(1,Y),(1,q2)]++(us.take k).flatMap YAq=FK at *;have cj:=ZB c4;clear c4;generalize us[k]=u at *;obtain⟨x,y⟩:=u;simp only[Vw,Bj,BX,BK] at d0 d1 u1 u2;obtain⟨b4,a5⟩:=ex (wr.alloc (.cells #[ii x,ii y] 166));have ck:Blk b4 wr.heap.size 166 #[ii x,ii y]:=by rw[a5];exact Blk.new _ _ _
   have c5:wr.heap.size+1=b4.heap.size:=by rw[a5,AM]
   have c6:kz wr b4:=by rw[a5];exact kq.alloc _
   have cm:=U.tO c6;have b5:=a1.kO c6;have a:=JAJ (k:=1) b5 Z [x] (by simp;omega) sq (by simp[c2];omega) #[ii x] rfl 1 rfl;have cn:=ZB c5;have co:=ZB a5;clear c5 a5;go_wp2_with fail;rw[<- ZA co,ZA cn];refine a.mono ?_;clear a;rintro e c7 ⟨rfl,c8,c9⟩;have ca:=b5.x.blk c9 ck (by decide) (by decide);have e1:cl c7 (aq wr.heap.size 1) (ii y):=uq (ca.cell 1)
   have db:=ca.lt;have a:=JAJ (k:=4) c8 Z [y] (by simp;omega) sq (by simp[c2];omega) #[ii y] rfl 1 rfl
   go_wp2_with (
    (refine a.mono ?_)
    clear a;rintro e cp ⟨rfl,cq,cr⟩)
   go_roundw
   case rel=>
    refine⟨k+1,Z,by go_num,?_,(cm.trans c9 (fun x b=>.inr (b5.fresh x b))).trans cr (fun x b=>.inr (c8.fresh x b))⟩;rw[ZA ci,<- BN,ZA cj,QI];simpa [fields,YAq] using cq
   case measure=>simp[intOf];omega
 obtain rfl:8=k:=Z
 have cb:[(1,75),(1,67),(4,c),(4,view),(1,mode),(4,d),(4,f),(4,l),(1,o),(1,p),(4,t),(4,v),(4,A),(1,Y),(1,q2)]++(us.take 8).flatMap YAq=VBl ⟨c,view,mode,d,f,l,⟨o,p,t,v,A⟩⟩ P V X us:=by
  rw[AK (by rw[ZA ad];omega),ZA cf,ZA cg];rfl
 rw[cb] at a1;clear cb;have cc:=ZAD a1;go_wp2_with (refine cc.mono ?_;clear cc;rintro e c7 ⟨u,rfl,hu,a3⟩);have cd:=XBb hu Z (by rw[length_fields,Qu,ZA ad];omega) Z;go_wp2_with (refine cd.mono ?_;clear cd;rintro e cp ⟨rfl,cs,ct⟩);go_ret2;have a2:=a9.tO U;exact⟨u,rfl,VC cs a2.size,(a2.tO a3).trans ct (fun x b=>.inr (AB a2.size (own_mem hu b).1))⟩
theorem ZBf (j:GeomAt w g B) {r:PReg} (h:r.May) (c:Nat) (a:List Nat) (d:Nat) (b:List Nat) (k:Rd w BA (pgs B) (XP a)) (l:Rd w OA (pgs B) (XP b)) (m:∀ z∈a,z<=1) (n:∀ z∈b,z<=1)
 (s f:Nat) (o:Rd w (some s) (8*2) (us.flatMap Vw)) (i:VW us r.pos.seg) :
 Calls prog 226 #[pq g,.agg (r.cs (.slice BA (pgs B) c) (.slice OA (pgs B) d) (.slice (some s) 8 f)).toArray] w fun e w'=>∃ u bs,e=.returned (.tuple #[u,zz])/\bs.length=128/\w'.ownsRow w.heap.size 5 1 u 128 (bys bs)/\kz w w':=by
 refine(KBG j h c a d b k l m n s f o i).mono ?_;rintro e w' ⟨u,rfl,p,q⟩;exact⟨u,_,rfl,Kj _ _ _ _ i.1,p,q⟩
def VBP (z:Int):Nat:=if z<0 then 4294967295 else z.toNat
theorem JBY {z:Int} (h:z<4096):VBP z<256 ^ 4:=by unfold VBP;split <;> omega
theorem VBK (z:Int) (c:-1<=z) (d:z<4096):bits BinOp.and IntKind.i64 z 4294967295=(VBP z:Nat):=by
 rcases Int.lt_or_le z 0 with h | h
 . obtain rfl:z = -1:=Z
   rfl
 obtain⟨n,rfl⟩:∃ n:Nat,z=n:=⟨z.toNat,Z⟩
 show IntKind.i64.wrap ((BitVec.ofInt 64 (n:Int) &&& BitVec.ofInt 64 4294967295).toNat:Int)=_;have a:(BitVec.ofInt 64 4294967295).toNat=4294967295:=by decide
 have b:(BitVec.ofInt 64 (n:Int)).toNat=n:=by rw[BitVec.toNat_ofInt];omega
 rw[Cv,a,b,show (4294967295:Nat)=2 ^ 32-1 from rfl,Cs,BO Z,AI];unfold VBP;rw[AF Z];omega
def ZAH (zs:List Int):List (Nat×Nat):=zs.map fun z=>(4,VBP z)
def Yq (zs:List Int):List UInt8:=Qp 64 (fields (ZAH zs))
theorem Zf (zs:List Int):widths (ZAH zs)=4*zs.length:=by
 induction zs with
 | nil=>rfl
 | cons z zs ih=>simp only[ZAH,CN,widths,Ao] at ih ⊢;omega
theorem Kf {zs:List Int} (h:zs.length<=15):(Yq zs).length=64:=JZ Z (by rw[length_fields,Zf];omega)
theorem XAa (c:Nat) (zs:List Int) (j:Rd w A n (KW zs)) (G:∀ z∈zs,-1<=z/\z<4096) (Q:n<=15) :
 Calls prog 221 #[.slice A n c] w fun e w'=>∃ u,e=.returned (.tuple #[u,zz])/\w'.ownsRow w.heap.size 5 1 u 64 (bys (Yq zs))/\kz w w':=by
 have l:zs.length=n:=by simpa [KW] using j.1
 have g:=ZB l;clear l;have R:((n:Nat):Int)<=15:=Z
 have p:=ZBi 64 Z w;go_enter func221,ntmps221;go_wp2_with (refine p.mono ?_;clear p;rintro e w1 ⟨r,H,rfl,d,a⟩);go_loopw [6,13] (fun _ i wr=>∃ k:Nat,k<=n/\i=.int .i64 k/\RowZ wr w.heap.size r H 64 (fields ((ZAH zs).take k))/\kz w wr) (fun _ i _=>n-(intOf i).toNat)
 case atStart=>exact⟨0,AP _,rfl,by simpa [fields] using d,a⟩
 clear d a;obtain⟨k,S,rfl,d,a⟩:=hrel;by_cases q:k<n
 . have h:k<zs.length:=by rw[ZA g];exact q
   have T:((k:Nat):Int)<(n:Nat):=Z
   obtain⟨b,o,u,rfl,f,U,s⟩:=(j.keep a).at_ q;simp only[KW,Aa,AC h,Az,Ab] at f;subst f;obtain⟨I,t⟩:=G _ (AN h);have v:(ZAH zs).take (k+1)=(ZAH zs).take k++[(4,VBP zs[k])]:=XAF _ zs k h
   have y:widths ((ZAH zs).take k)=4*k:=by
    unfold ZAH;rw[<- List.map_take];have:=Zf (zs.take k);rw[BH,CO Z] at this;exact this
   generalize zs[k]=z at *;replace s:cl wr (aq b (o+k)) (ii z):=s;have V:=VBK z I t;have B:=JBY t;have C:=JAJ (k:=4) d Z [VBP z] (uq B) sq (by simp[y];omega) #[ii (VBP z)] rfl 1 rfl;have J:=ZB v;clear B v y;generalize VBP z=m at *
   go_wp2_with (
    (refine C.mono ?_)
    clear C;rintro e K ⟨rfl,L,M⟩)
   go_roundw
   case rel=>
    refine⟨k+1,Z,by go_num,?_,a.trans M (fun x f=>.inr (d.fresh x f))⟩;rw[ZA J,QI];simpa [fields] using L
   case measure=>simp[intOf];omega
 obtain rfl:n=k:=Z
 rw[AK (by simp[ZAH,ZA g])] at d;have D:=ZAD d;go_wp2_with (refine D.mono ?_;clear D;rintro e W ⟨u,rfl,E,N⟩);have F:=XBb E Z (by rw[length_fields,Zf,ZA g];omega) Z;go_wp2_with (refine F.mono ?_;clear F;rintro e K ⟨rfl,O,P⟩);go_ret2;exact⟨u,rfl,VC O a.size,(a.tO N).trans P (fun x f=>.inr (AB a.size (own_mem E f).1))⟩