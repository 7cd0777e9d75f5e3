/- Lemmas of the proof, with their conditions. -/
import Derived.Test.YtfedaknhecbehaaGreatM35
import Derived.Test.YtfedaknhecbehaaGreatM09
namespace Go.Proofs.YtfedaknhecbehaaGreat
open Tryz Go.RowKit
variable {g P k G:Nat} {t:TypeId} {x0 x1 x2 x3 x4:Value} {A A1 A2:Option Addr}
set_option linter.all false
set_option maxHeartbeats 4000000
set_option maxRecDepth 20000
def QAb (w:World) (N:Nat) (u:Value) (w':World):Prop:=∃ bs:List UInt8,bs.length=N/\w'.ownsRow w.heap.size 5 1 u N (bys bs)
theorem cells5y {w:World} (h:Blk w g t #[x0,x1,x2,x3,x4]) :
 cl w g x0/\cl w (aq g 1) x1/\cl w (aq g 2) x2/\cl w (aq g 3) x3/\cl w (aq g 4) x4:=
 ⟨uq (h.cell 0),uq (h.cell 1),uq (h.cell 2),uq (h.cell 3),uq (h.cell 4)⟩
theorem ZBU (N:Nat) (a b:UInt8) (h2:2<=N) (f:N<=65536) (w:World):Calls prog 316 #[N,.int .u8 a.toNat,.int .u8 b.toNat] w fun e w'=>∃ g u,e=.returned (pq g)/\RowN w w' g u N 2:=by
 have c:=ZBp N f w;go_enter func316,ntmps316;go_wp2_with (refine c.mono ?_;clear c;rintro e w1 ⟨g,u,rfl,h⟩);have i:=h.kO (kq.alloc (.cells #[.int .u8 a.toNat,.int .u8 b.toNat] 5))
 have j:Rd (w1.alloc (.cells #[.int .u8 a.toNat,.int .u8 b.toNat] 5)) (some w1.heap.size) 2 (bys [a,b]):=by
  have:=Rd.of_blk (n:=2) (Blk.new w1 5 #[.int .u8 a.toNat,.int .u8 b.toNat]) sq;exact this
 have d:=YBp i 2 _ j Z;go_wp2_with (refine d.mono ?_;clear d;rintro e l ⟨rfl,k⟩);go_ret;exact⟨g,u,rfl,k⟩
theorem JAo {w1 w:World} {a:Nat} {u:Value} (h:RowN w1 w g u 64 a):Calls prog 369 #[pq g] w fun e w'=>e=.returned u/\kz w1 w'/\QAb w1 64 u w':=by
 obtain⟨b,c,rfl,l⟩:=h.form Z;have m:(60:Int)<=(c:Nat):=Z
 have h1:RowN w1 (w.setCell (aq g 1) (.int .i64 60)) g (.slice (some b) 64 c) 64 60:=h.setAt 60 Z;obtain⟨n,o⟩:=h.cells;obtain⟨p,q⟩:=h1.cells;have r:=h.froz;obtain⟨bs,s,j⟩:=h1.own;have d:=(Rd.of_own j).take (k:=60) Z;rw[ZV] at d;have f:=ZBm c (bs.take 60) d Z;have i:=XBh h1 4 (KM (bs.take 60)) Z (ZW _) Z;go_enter func369,ntmps369
 go_wp2_with (first
  | (go_at_call 275;refine f.mono ?_;clear f;rintro e w' ⟨rfl,rfl⟩)
  | (go_at_call 274;refine i.mono ?_;clear i;rintro e t ⟨rfl,h2⟩;obtain⟨v,y⟩:=h2.cells))
 go_ret;exact⟨rfl,h2.1,h2.own⟩
def JBj (B i m:Nat):Value:=.agg #[ii B,ii 8,ii 24,ii i,ii m]
section
variable (w:World) (B:Nat) (h1:1<=B) (h2:B<=64)
include h1 h2
theorem SuperMayR:cr 371 #[JBj B 1 1] w (.bool true):=by
 have a:=fun W=>ConfigMayR_is W B h1 h2;have b:∀ W,cq 147 #[ii ((1:Nat):Int),zz,ii 2147483647] W (.bool true):=fun W=>JD _ 0 2147483647 true sq W;have c:∀ W,cq 147 #[ii ((1:Nat):Int),ii 1,ii 2147483647] W (.bool true):=fun W=>JD _ 1 2147483647 true sq W;have d:=Blk.new w 338 #[ii B,ii 8,ii 24,ii ((1:Nat):Int),ii ((1:Nat):Int)];have g:kz w (w.alloc (.cells #[ii B,ii 8,ii 24,ii ((1:Nat):Int),ii ((1:Nat):Int)] 338)):=kq.alloc _;obtain⟨h,i,j,k,l⟩:=cells5y d;unfold JBj;unfold Je at a;go_enter func371,ntmps371
 go_wp2_with (first
  | (go_at_call 291;refine(a _).mono ?_;clear a;rintro e w1 ⟨rfl,f⟩;obtain⟨h,i,j,k,l⟩:=cells5y (d.kO f))
  | (go_at_call 147;first | (refine(b _).mono ?_;clear b;rintro e w' ⟨rfl,rfl⟩) | (refine(c _).mono ?_;clear c;rintro e w' ⟨rfl,rfl⟩)))
 go_ret;exact⟨rfl,g.tO f⟩
theorem SuperBytesR:Calls prog 298 #[JBj B 1 1] w fun e w'=>∃ u,e=.returned (.tuple #[u,zz])/\kz w w'/\QAb w 64 u w':=by
 have i:=fun W=>SuperMayR W B h1 h2;have j:=fun W=>ZBU 64 75 83 Z Z W;have l:=Blk.new w 338 #[ii B,ii 8,ii 24,ii ((1:Nat):Int),ii ((1:Nat):Int)];have s:kz w (w.alloc (.cells #[ii B,ii 8,ii 24,ii ((1:Nat):Int),ii ((1:Nat):Int)] 338)):=kq.alloc _;obtain⟨b,c,d,f,h⟩:=cells5y l;unfold JBj at i ⊢;go_enter func298,ntmps298
 go_wp2_with (first
  | (go_at_call 371;refine(i _).mono ?_;clear i;rintro e w1 ⟨rfl,m⟩)
  | (go_at_call 316;refine(j _).mono ?_;clear j;rintro e A ⟨g,u,rfl,n⟩;have o:=l.kO m;clear b c d f h;obtain⟨b,c,d,f,h⟩:=cells5y (o.kO n.1)))
 have a:=QBd (k:=1) n Z [B,8,24] (by simp;omega) sq sq #[ii B,ii 8,ii 24] rfl 3 rfl;go_wp2_with (refine a.mono ?_;clear a;rintro e C ⟨rfl,p⟩;clear b c d f h;obtain⟨b,c,d,f,h⟩:=cells5y (o.kO p.1));have a:=QBd (k:=4) p Z [1,1] sq sq sq #[ii ((1:Nat):Int),ii ((1:Nat):Int)] rfl 2 rfl;go_wp2_with (refine a.mono ?_;clear a;rintro e D ⟨rfl,t⟩);have q:=JAo t;go_wp2_with (refine q.mono ?_;clear q;rintro e E ⟨rfl,v,bs,y,z⟩);go_ret2;have r:=s.tO m;exact⟨u,rfl,r.tO v,bs,y,VC z r.size⟩
end
theorem ZAl {n:Nat} (c:Nat) (a b:UInt8) (e:a≠0) (l:1<=n) {w:World} (h:Rd w A n (bys (List.replicate n 0))):cq 415 #[.slice A n c,n,.int .u8 a.toNat,.int .u8 b.toNat] w (.bool false):=by
 obtain⟨g,o,v,rfl,d,m,f⟩:=h.at_ (j:=0) Z
 have i:v=.int .u8 0:=by
  simp only[bys,by8,DU,Au] at d;rw[AJ Z] at d;exact(C0 d).symm
 subst i
 have k:¬ (0:Int)=(a.toNat:Nat):=by
  intro h;exact e (UInt8.toNat_inj.1 (uq h.symm))
 have p:((0:Int) == (a.toNat:Nat))=false:=uq k
 have q:¬ ((n:Nat):Int)<=0:=Z
 have r:(0:Int)<(n:Nat):=Z
 have s:0<n:=Z
 go_enter func415,ntmps415;rw[BK] at f
 go_wp2
 go_ret;exact⟨rfl,rfl⟩
def supz:Value:=.agg #[zz,zz,zz,zz,zz]
theorem Kt (c:Nat) {w:World} (h:Rd w A 64 (bys (List.replicate 64 0))):cr 368 #[.slice A 64 c] w (.tuple #[supz,ii 2]):=by
 have a:∀ W,kz w W->cq 415 #[.slice A 64 c,ii 64,.int .u8 75,.int .u8 83] W (.bool false):=fun W d=>ZAl c 75 83 (by decide) Z (h.keep d);unfold supz;have b:kz w ((w.alloc (.cells #[zz,zz,zz,zz,zz] 338)).alloc (.cells #[zz,zz,zz,zz,zz] 338)):=(kq.alloc _).alloc _;go_enter func368,ntmps368;go_wp2_with (refine(a _ b).mono ?_;clear a;rintro e w' ⟨rfl,rfl⟩);exact Ac (v:=.tuple #[.agg #[zz,zz,zz,zz,zz],ii 2]) (by simp[results,results368,go_sem]) rfl ⟨rfl,b⟩
theorem Ku {A':Option Addr} (c g:Nat) {w:World} (h:Rd w A 64 (bys (List.replicate 64 0))) (o:Rd w A' 64 (bys (List.replicate 64 0))):cr 293 #[.slice A 64 c,.slice A' 64 g] w (.tuple #[supz,zz,ii 2]):=by
 have b:=fun W (d:kz w W)=>Kt c (h.keep d);have f:=fun W (d:kz w W)=>Kt g (o.keep d);have i:kz w (w.alloc (.cells #[zz,zz,zz,zz,zz] 338)):=kq.alloc _;have p:=Blk.new w 338 #[zz,zz,zz,zz,zz];unfold supz at b f ⊢;go_enter func293,ntmps293;go_wp2_with (refine(b _ i).mono ?_;clear b;rintro e w1 ⟨rfl,j⟩;have k:=(i.tO j).alloc (.cells #[zz,zz,zz,zz,zz] 338));go_wp2_with (refine(f _ k).mono ?_;clear f;rintro e q ⟨rfl,l⟩;have a:=(p.kO j).kO ((kq.alloc (.cells #[zz,zz,zz,zz,zz] 338)).tO l);obtain⟨B,C,D,E,F⟩:=cells5y a;have G:=a.lt;have H:=a.frozen 0;have I:=a.frozen 1;have J:=a.frozen 2;have K:=a.frozen 3;have L:=a.frozen 4);have m:=(a.put5 (.int .i64 0) (.int .i64 0) (.int .i64 0) (.int .i64 0) (.int .i64 0)).kO (kq.alloc (.cells #[zz,zz,zz,zz,zz] 338));have n:=Keep.put5 q w.heap.size (.int .i64 0) (.int .i64 0) (.int .i64 0) (.int .i64 0) (.int .i64 0);unfold put5 at m n;obtain⟨r,s,t,u,y⟩:=cells5y m;refine Ac (v:=.tuple #[.agg #[zz,zz,zz,zz,zz],zz,ii 2]) (by simp[results,results293,go_sem,r,s,t,u,y]) rfl ⟨rfl,?_⟩;refine((k.tO l).trans n (fun x z=>.inr ?_)).alloc _;simp at z;omega
def zv (P:Nat):List Value:=List.replicate P (.int .i64 0)
theorem QBj {w:World} (h:Rd w A P (zv P)) (c:k<P):∃ b o,A=some ⟨b,o,none⟩/\b<w.heap.size/\cl w (aq b (o+k)) zz:=by
 obtain⟨b,o,u,rfl,a,d,e⟩:=h.at_ c;simp only[zv,Au] at a;rw[AJ c] at a;cases a;exact⟨b,o,rfl,d,e⟩
theorem QBT {w:World} (B:Nat) (h1:1<=B) (h2:B<=64) (c:Nat) (h:Rd w A (pgs B) (zv (pgs B))):cr 378 #[Je B,.slice A (pgs B) c] w (.bool true):=by
 have a:=fun W=>PagesR_is W B h1 h2;have l:=(ZD h1 h2).2;have f:∀ W,cq 147 #[zz,zz,ii 1] W (.bool true):=fun W=>JD 0 0 1 true sq W;obtain⟨P,d⟩:=ex (pgs B);rw[<- d] at a l h ⊢;have g:kz w (w.alloc (.cells #[ii B,ii 8,ii 24] 28)):=kq.alloc _;obtain⟨p,q,r⟩:=Kq w B;have s:=ZB d;clear d;unfold Je at a ⊢;go_enter func378,ntmps378;go_wp2_with (refine(a _).mono ?_;clear a;rintro e w1 ⟨rfl,j⟩);have m:=h.keep (g.tO j);go_loop [5] (fun i=>∃ k:Nat,k<=P/\i=.int .i64 k) (fun i=>P-(intOf i).toNat)
 case atStart=>exact⟨0,AP _,rfl⟩
 obtain⟨k,t,rfl⟩:=hrel;by_cases n:k<P
 . obtain⟨b,o,rfl,u,v⟩:=QBj m n
   go_wp2_with (refine(f _).mono ?_;clear f;rintro e w' ⟨rfl,rfl⟩);go_round;case rel=>exact⟨k+1,Z,by go_num⟩
   case measure=>simp[intOf];omega
 obtain rfl:k=P:=Z
 go_wp2
 go_ret;exact⟨rfl,g.tO j⟩
theorem KBk {w:World} (d:P<=60) (c:Nat) (h:Rd w A P (zv P)):cq 317 #[.slice A P c] w zz:=by
 go_enter func317,ntmps317
 go_wp2
 go_loop [3,4] (fun n i=>∃ k:Nat,k<=P/\i=.int .i64 k/\n=.int .i64 0) (fun _ i=>P-(intOf i).toNat)
 case atStart=>exact⟨0,AP _,rfl,rfl⟩
 obtain⟨k,e,rfl,rfl⟩:=hrel;by_cases a:k<P
 . obtain⟨b,o,rfl,f,g⟩:=QBj h a
   go_wp2
   go_round;case rel=>exact⟨k+1,Z,by go_num,by go_num⟩
   case measure=>simp[intOf];omega
 obtain rfl:k=P:=Z
 go_wp2
 go_ret;exact⟨rfl,rfl⟩
def pos0:Value:=.agg #[zz,zz,ii 1,zz,ii 1]
theorem JBD (w:World) (B:Nat):cr 300 #[Je B,pos0] w (.bool true):=by
 have b:=fun n lo hi W=>JD n lo hi _ rfl W;have a:=Blk.new w 28 #[ii B,ii 8,ii 24];have c:=Blk.new (w.alloc (.cells #[ii B,ii 8,ii 24] 28)) 49 #[zz,zz,ii 1,zz,ii 1];replace a:=a.kO (kq.alloc (.cells #[zz,zz,ii 1,zz,ii 1] 49));obtain⟨d,f,g⟩:=XD a;obtain⟨p0,h,i,j,k⟩:=cells5y c;unfold Je pos0;go_enter func300,ntmps300;go_wp2_with (refine(b _ _ _ _).mono ?_;rintro e w' ⟨rfl,rfl⟩);go_ret;exact⟨sq,(kq.alloc _).alloc _⟩
theorem cells14y {w:World} {a b c d e f i j k:Value} (h:Blk w g t #[x0,x1,x2,x3,x4,a,b,c,d,e,f,i,j,k]) :
 cl w g x0/\cl w (aq g 1) x1/\cl w (aq g 2) x2/\cl w (aq g 3) x3/\cl w (aq g 4) x4/\cl w (aq g 5) a/\cl w (aq g 6) b/\cl w (aq g 7) c/\cl w (aq g 8) d/\cl w (aq g 9) e/\cl w (aq g 10) f/\cl w (aq g 11) i/\cl w (aq g 12) j/\cl w (aq g 13) k:=
 ⟨uq (h.cell 0),uq (h.cell 1),uq (h.cell 2),uq (h.cell 3),uq (h.cell 4),uq (h.cell 5),uq (h.cell 6),uq (h.cell 7),uq (h.cell 8),uq (h.cell 9),uq (h.cell 10),uq (h.cell 11),uq (h.cell 12),uq (h.cell 13)⟩
def SegsR (w:World) (G:Nat):Prop:=Rd w (some G) 16 (.int .i64 1 :: List.replicate 15 (.int .i64 0))
theorem VAI {w:World} (h:SegsR w G) (d:k<8):cl w (aq G (k*2)) (ii (if k=0 then 1 else 0))/\cl w (aq G (k*2+1)) zz:=by
 obtain⟨b,o,e,f,a⟩:=h.2 Z;cases e;have c:=a (k*2);have h1:=a (k*2+1);simp only[BB] at c h1;refine⟨c _ ?_,h1 _ ?_⟩
 . rcases k with _ | k
   . rfl
   rw[AF Z,show (k+1)*2=(2*k+1)+1 from Z,BX,Au,AJ Z]
 rw[BX,Au,AJ Z]
theorem SegsR.kO {w w':World} (h:SegsR w G) (a:kz w w'):SegsR w' G:=Rd.keep h a
def JBg (B:Nat) (A1:Option Addr) (q1:Nat) (A2:Option Addr) (q2:Nat) (G:Nat):Value:=.agg #[ii 1,ii 1,ii 1,zz,zz,zz,zz,zz,ii 1,zz,ii 1,.slice A1 (pgs B) q1,.slice A2 (pgs B) q2,.slice (some G) 8 8]
theorem VAd {w:World} (B:Nat) (h1:1<=B) (h2:B<=64) (H:Nat) (I:Nat) (N:Rd w A1 (pgs B) (zv (pgs B))) (O:Rd w A2 (pgs B) (zv (pgs B))) (U:SegsR w G) :
 cr 315 #[Je B,JBg B A1 H A2 I G] w (.bool true):=by
 have L:=fun n lo hi W=>JD n lo hi _ rfl W;have T:=fun W=>JBD W B;have Q:=fun W (M:kz w W)=>QBT B h1 h2 H (N.keep M);have R:=fun W (M:kz w W)=>QBT B h1 h2 I (O.keep M);obtain⟨P,S⟩:=ex (pgs B);have V:∀ W,kz w W->kz w W:=fun _ h=>h;unfold JBg pos0 at *;unfold Je at *;rw[<- S] at Q R N O ⊢;have a0:=ZB S;clear S;obtain⟨a1,a2⟩:=ex w.heap.size;have f:=Blk.new w 28 #[ii B,ii 8,ii 24];have a:=Blk.new (w.alloc (.cells #[ii B,ii 8,ii 24] 28)) 240 #[ii 1,ii 1,ii 1,zz,zz,zz,zz,zz,ii 1,zz,ii 1,.slice A1 P H,.slice A2 P I,.slice (some G) 8 8];rw[show (w.alloc (.cells #[ii B,ii 8,ii 24] 28)).heap.size=w.heap.size+1 from sq] at a;have b:kz w ((w.alloc (.cells #[ii B,ii 8,ii 24] 28)).alloc (.cells #[ii 1,ii 1,ii 1,zz,zz,zz,zz,zz,ii 1,zz,ii 1,.slice A1 P H,.slice A2 P I,.slice (some G) 8 8] 240)):=(kq.alloc _).alloc _;replace f:=f.kO (kq.alloc (.cells #[ii 1,ii 1,ii 1,zz,zz,zz,zz,zz,ii 1,zz,ii 1,.slice A1 P H,.slice A2 P I,.slice (some G) 8 8] 240));obtain⟨A,C,D⟩:=XD f;obtain⟨j,l,m,o,p,q,c,r,s,t,u,v,y,d⟩:=cells14y a;go_enter func315,ntmps315
 go_wp2_with (first
  | (go_at_call 147;refine(L _ _ _ _).mono ?_;rintro e w' ⟨rfl,rfl⟩)
  | (go_at_call 300;refine(T _).mono ?_;clear T;rintro e w1 ⟨rfl,g⟩;replace b:=b.tO g;replace f:=f.kO g;replace a:=a.kO g;clear A C D j l m o p q c r s t u v y d;obtain⟨A,C,D⟩:=XD f;obtain⟨j,l,m,o,p,q,c,r,s,t,u,v,y,d⟩:=cells14y a)
  | (go_at_call 378;first
      | (refine(Q _ b).mono ?_;clear Q;rintro e w1 ⟨rfl,g⟩;replace b:=b.tO g;replace f:=f.kO g;replace a:=a.kO g;clear A C D j l m o p q c r s t u v y d;obtain⟨A,C,D⟩:=XD f;obtain⟨j,l,m,o,p,q,c,r,s,t,u,v,y,d⟩:=cells14y a)
      | (refine(R _ b).mono ?_;clear R;rintro e w1 ⟨rfl,g⟩;replace b:=b.tO g;replace f:=f.kO g;replace a:=a.kO g;clear A C D j l m o p q c r s t u v y d;obtain⟨A,C,D⟩:=XD f;obtain⟨j,l,m,o,p,q,c,r,s,t,u,v,y,d⟩:=cells14y a)))
 have J:=U.kO b;clear A C D f N O V;clear j l m o p q c r s t u v y d;go_loopw [5] (fun i wr=>∃ k:Nat,k<=8/\i=.int .i64 k/\kz w wr/\Blk wr (w.heap.size+1) 240 #[ii 1,ii 1,ii 1,zz,zz,zz,zz,zz,ii 1,zz,ii 1,.slice A1 P H,.slice A2 P I,.slice (some G) 8 8]/\SegsR wr G) (fun i _=>8-(intOf i).toNat)
 case atStart=>exact⟨0,Z,rfl,b,a,J⟩
 clear b a J;obtain⟨k,M,rfl,b,a,J⟩:=hrel;obtain⟨j,l,m,o,p,q,c,r,s,t,u,v,y,d⟩:=cells14y a;by_cases X:k<8
 . obtain⟨z,E⟩:=VAI J X
   rcases BQ k with rfl | hkp
   . simp only[DL,BB,Bo] at z E
     go_wp2_with fail;refine ZT (fun w'=>cl w' ⟨w.heap.size+1,13,none⟩ (.slice (some G) 8 8)/\cl w' ⟨w.heap.size+1,6,none⟩ zz/\cl w' G (ii 1)/\cl w' (aq G 1) zz) 31 [[0,1,2,3,4,5],[6,7,8,9,10,11,12,13,14],[15,16,17,18,19,20,21,22,23,24,25,26,27,28,29,30]] ⟨d,c,z,E⟩ ?_;simp only[PI];iterate 6 refine wG ?_
     refine JB rq fun K F=>?_;go_wp2_with (refine(L _ _ _ _).mono ?_;rintro e w' ⟨rfl,rfl⟩);refine F _ _ (⟨d,c,z,E⟩) ?_
     iterate 8 refine wG ?_
     refine JB rq fun K F=>?_;go_wp2_with (refine(L _ _ _ _).mono ?_;rintro e w' ⟨rfl,rfl⟩);refine F _ _ (⟨d,c,z,E⟩) ?_
     iterate 15 refine wG ?_
     refine VB ?_;go_wp2_with fail;go_round;case rel=>exact⟨0+1,Z,by go_num,b.drew,a.drew,J.kO kq.drew⟩
     case measure=>simp[intOf]
   rw[AF Z] at z
   have Y:¬ ((k:Nat):Int)=0:=Z
   have a3:(((k:Nat):Int) == 0)=false:=uq Y
   go_wp2_with fail;refine ZT (fun w'=>cl w' ⟨w.heap.size+1,13,none⟩ (.slice (some G) 8 8)/\cl w' ⟨w.heap.size+1,6,none⟩ zz/\cl w' (aq G (k*2)) zz/\cl w' (aq G (k*2+1)) zz) 31 [[0,1,2,3,4,5],[6,7,8,9,10,11,12,13,14],[15,16,17,18,19,20,21,22,23,24,25,26,27,28,29,30]] ⟨d,c,z,E⟩ ?_;simp only[PI];iterate 6 refine wG ?_
   refine JB rq fun K F=>?_;go_wp2_with (refine(L _ _ _ _).mono ?_;rintro e w' ⟨rfl,rfl⟩);refine F _ _ (⟨d,c,z,E⟩) ?_
   iterate 8 refine wG ?_
   refine JB rq fun K F=>?_;go_wp2_with (refine(L _ _ _ _).mono ?_;rintro e w' ⟨rfl,rfl⟩);refine F _ _ (⟨d,c,z,E⟩) ?_
   iterate 15 refine wG ?_
   refine VB ?_;go_wp2_with fail;go_round;case rel=>exact⟨k+1,Z,by go_num,b.drew,a.drew,J.kO kq.drew⟩
   case measure=>simp[intOf];omega
 obtain rfl:k=8:=Z
 go_wp2
 go_ret;exact⟨rfl,b⟩
theorem JAQ {w:World} (B:Nat) (h1:1<=B) (h2:B<=64) (C:Nat) (D:Nat) (M:Rd w A1 (pgs B) (zv (pgs B))) (N:Rd w A2 (pgs B) (zv (pgs B))) (O:SegsR w G) :
 Calls prog 199 #[Je B,JBg B A1 C A2 D G] w fun e w'=>∃ u,e=.returned (.tuple #[u,zz])/\kz w w'/\QAb w 128 u w':=by
 have Q:=fun W (A:kz w W)=>VAd B h1 h2 C D (M.keep A) (N.keep A) (O.kO A);have a4:=fun W=>RegionLenR_is W B;have a5:=fun W=>ZBU 128 75 67 Z Z W;have ai:=(ZD h1 h2).2;have R:=fun W (A:kz w W)=>KBk Z C (M.keep A);have S:=fun W (A:kz w W)=>KBk Z D (N.keep A);obtain⟨P,T⟩:=ex (pgs B);unfold JBg at *;unfold Je at *;rw[<- T] at Q R S M N ⊢;have aj:=ZB T;clear T;have F:=Blk.new w 28 #[ii B,ii 8,ii 24];have v:=Blk.new (w.alloc (.cells #[ii B,ii 8,ii 24] 28)) 240 #[ii 1,ii 1,ii 1,zz,zz,zz,zz,zz,ii 1,zz,ii 1,.slice A1 P C,.slice A2 P D,.slice (some G) 8 8];rw[show (w.alloc (.cells #[ii B,ii 8,ii 24] 28)).heap.size=w.heap.size+1 from sq] at v;have y:kz w ((w.alloc (.cells #[ii B,ii 8,ii 24] 28)).alloc (.cells #[ii 1,ii 1,ii 1,zz,zz,zz,zz,zz,ii 1,zz,ii 1,.slice A1 P C,.slice A2 P D,.slice (some G) 8 8] 240)):=(kq.alloc _).alloc _;replace F:=F.kO (kq.alloc (.cells #[ii 1,ii 1,ii 1,zz,zz,zz,zz,zz,ii 1,zz,ii 1,.slice A1 P C,.slice A2 P D,.slice (some G) 8 8] 240));obtain⟨U,V,X⟩:=XD F;obtain⟨f,h,j,l,m,n,o,p,q,r,s,c,d,t⟩:=cells14y v;go_enter func199,ntmps199
 go_wp2_with (first
  | (go_at_call 315;refine(Q _ y).mono ?_;clear Q;rintro e w1 ⟨rfl,H⟩;replace y:=y.tO H;replace F:=F.kO H;replace v:=v.kO H;clear U V X f h j l m n o p q r s c d t;obtain⟨U,V,X⟩:=XD F)
  | (go_at_call 280;refine(a4 _).mono ?_;clear a4;rintro e w2 ⟨rfl,H⟩;replace y:=y.tO H;replace v:=v.kO H;clear U V X)
  | (go_at_call 316;refine(a5 _).mono ?_;clear a5;rintro e I ⟨g,u,rfl,a⟩;obtain⟨Y,J,rfl,ak⟩:=a.form Z;obtain⟨f,h,j,l,m,n,o,p,q,r,s,c,d,t⟩:=cells14y (v.kO a.1)))
 have b:=QBd (k:=4) a Z [1,1] sq sq sq #[ii 1,ii 1] rfl 2 rfl;go_wp2_with (refine b.mono ?_;clear b a;rintro e I ⟨rfl,a⟩;clear f h j l m n o p q r s c d t;obtain⟨f,h,j,l,m,n,o,p,q,r,s,c,d,t⟩:=cells14y (v.kO a.1));have b:=XBh a 1 1 Z sq sq;go_wp2_with (refine b.mono ?_;clear b a;rintro e I ⟨rfl,a⟩;clear f h j l m n o p q r s c d t;obtain⟨f,h,j,l,m,n,o,p,q,r,s,c,d,t⟩:=cells14y (v.kO a.1));have b:=QBd (k:=4) a Z [0,0,0] sq sq sq #[zz,zz,zz] rfl 3 rfl;go_wp2_with (refine b.mono ?_;clear b a;rintro e I ⟨rfl,a⟩;clear f h j l m n o p q r s c d t;obtain⟨f,h,j,l,m,n,o,p,q,r,s,c,d,t⟩:=cells14y (v.kO a.1));have b:=QBd (k:=1) a Z [0,0] sq sq sq #[zz,zz] rfl 2 rfl;go_wp2_with (refine b.mono ?_;clear b a;rintro e I ⟨rfl,a⟩;clear f h j l m n o p q r s c d t;obtain⟨f,h,j,l,m,n,o,p,q,r,s,c,d,t⟩:=cells14y (v.kO a.1));have b:=QBd (k:=4) a Z [1,0,1] sq sq sq #[ii 1,zz,ii 1] rfl 3 rfl;go_wp2_with (refine b.mono ?_;clear b a;rintro e I ⟨rfl,a⟩;clear f h j l m n o p q r s c d t;obtain⟨f,h,j,l,m,n,o,p,q,r,s,c,d,t⟩:=cells14y (v.kO a.1));have a0:=y.tO a.1;refine ZT (fun w'=>cl w' ⟨w.heap.size+1,11,none⟩ (.slice A1 P C)/\cl w' ⟨w.heap.size+1,12,none⟩ (.slice A2 P D)) 8 [[0,1,2,4,5],[3],[6],[7]] ⟨c,d⟩ ?_;simp only[PI];iterate 5 refine wG ?_
 refine JB rq fun K E=>?_;go_wp2_with (refine(R _ a0.drew).mono ?_;clear R;rintro e w' ⟨rfl,rfl⟩);refine E _ _ (⟨c,d⟩) ?_
 try simp only[Act.put,PU]
 refine JB rq fun K E=>?_;go_wp2_with (refine(S _ a0.drew).mono ?_;clear S;rintro e w' ⟨rfl,rfl⟩);refine E _ _ (⟨c,d⟩) ?_
 try simp only[Act.put,PU]
 obtain⟨e0,e1,e2,e3,e4,e5,e6,e7,e8,e9,ac,a6,a7,ad⟩:=cells14y (v.kO (a.1.alloc (.cells #[zz,zz] 3)));refine JB rq fun K E=>?_;go_wp2_with fail;refine E _ _ (⟨a6,a7⟩) ?_
 try simp only[Act.put,PU]
 refine VB ?_;have b:=QBd (k:=1) (a.kO kq.drew) Z [0,0] sq sq sq #[zz,zz] rfl 2 rfl;clear f h j l m n o p q r s c d t e0 e1 e2 e3 e4 e5 e6 e7 e8 e9 ac a6 a7 ad a0;go_wp2_with (refine b.mono ?_;clear b a;rintro e I ⟨rfl,a⟩);go_loopw [7] (fun i wr=>∃ k:Nat,k<=8/\i=.int .i64 k/\RowN w2 wr g (.slice (some Y) 128 J) 128 (39+5*k)) (fun i _=>8-(intOf i).toNat)
 case atStart=>exact⟨0,Z,rfl,a⟩
 clear a;obtain⟨k,A,rfl,a⟩:=hrel;obtain⟨f,h,j,l,m,n,o,p,q,r,s,c,d,t⟩:=cells14y (v.kO a.1);by_cases a8:k<8
 . obtain⟨z,hz,L⟩:∃ z:Nat,z<=1/\cl wr (aq G (k*2)) (Value.int .i64 (z:Nat)):=by
    obtain⟨L,s1⟩:=VAI (O.kO (y.tO a.1)) a8;by_cases y:k=0
    . rw[AJ y] at L
      exact⟨1,Z,L⟩
    rw[AF y] at L
    exact⟨0,Z,L⟩
   have b:=XBh a 1 z Z (by simp;omega) Z;go_wp2_with (refine b.mono ?_;clear b;rintro e w4 ⟨rfl,a1⟩;clear f h j l m n o p q r s c d t;obtain⟨f,h,j,l,m,n,o,p,q,r,s,c,d,t⟩:=cells14y (v.kO a1.1);obtain⟨_,s1⟩:=VAI (O.kO (y.tO a1.1)) a8);have b:=XBh a1 4 0 Z sq Z;go_wp2_with (refine b.mono ?_;clear b;rintro e w5 ⟨rfl,ae⟩);go_round;case rel=>exact⟨k+1,Z,by go_num,ae⟩
   case measure=>simp[intOf];omega
 obtain rfl:k=8:=Z
 have a2:RowN w2 (wr.setCell (aq g 1) (.int .i64 124)) g (.slice (some Y) 128 J) 128 124:=a.setAt 124 Z;obtain⟨al,am⟩:=a.cells;have f1:=a.froz;obtain⟨b0,b1⟩:=a2.cells;obtain⟨bs,hl,ho⟩:=a2.own;have a9:=(Rd.of_own ho).take (k:=124) Z;rw[ZV] at a9;have aa:=ZBm J (bs.take 124) a9.drew Z;have ab:=XBh (a2.kO kq.drew) 4 (KM (bs.take 124)) Z (ZW _) Z;have an:(124:Int)<=(J:Nat):=Z
 have ao:IntKind.i64.wrap 124=124:=rfl;go_wp2_with fail;refine ZT (fun w'=>cl w' g (.slice (some Y) 128 J)) 13 [[0,1,2,3,4,5,6,7,8,9,10,11],[12]] b0 ?_;simp only[PI];iterate 12 refine wG ?_
 refine JB rq fun K E=>?_;go_wp2_with (refine aa.mono ?_;clear aa;rintro e w' ⟨rfl,rfl⟩);refine E _ _ (b0) ?_
 try simp only[Act.put,PU]
 refine VB ?_;go_wp2_with (refine ab.mono ?_;clear ab;rintro e w6 ⟨rfl,a3⟩;obtain⟨n0,n1⟩:=a3.cells);go_ret2;obtain⟨af,ag,ah⟩:=a3.own;exact⟨_,rfl,y.tO a3.1,af,ag,VC ah y.size⟩