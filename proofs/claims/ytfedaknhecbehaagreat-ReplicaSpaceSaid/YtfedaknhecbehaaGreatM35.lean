/- Lemmas of the proof, with their conditions. -/
import Derived.Test.YtfedaknhecbehaaGreatM05
import Derived.Test.YtfedaknhecbehaaGreatM08
import Derived.Test.YtfedaknhecbehaaGreatM16
namespace Go.Proofs.YtfedaknhecbehaaGreat
open Tryz Go.RowKit
set_option linter.all false
set_option maxHeartbeats 1000000
def Je (B:Nat):Value:=.agg #[ii B,ii 8,ii 24]
theorem Kq (w:World) (B:Nat):(w.alloc (.cells #[ii B,ii 8,ii 24] 28)).cell? w.heap.size=some (.int .i64 B)/\(w.alloc (.cells #[ii B,ii 8,ii 24] 28)).cell? (aq w.heap.size 1)=some (.int .i64 8)/\(w.alloc (.cells #[ii B,ii 8,ii 24] 28)).cell? (aq w.heap.size 2)=some (.int .i64 24):=by
 exact⟨sq,sq,sq⟩
theorem XD {w:World} {g B:Nat} (h:Blk w g 28 #[ii B,ii 8,ii 24]):cl w g (ii B)/\cl w (aq g 1) (ii 8)/\cl w (aq g 2) (ii 24):=
 ⟨uq (h.cell 0),uq (h.cell 1),uq (h.cell 2)⟩
theorem Vp {a b:Int} (h:a=b):Ending.returned (ii a)=.returned (ii b):=by rw[h]
theorem QAo (a b q:Nat) (g:0<b) (h:a+b<=1000000) (c:(a+b-1) / b=q) (w:World):cq 299 #[a,b] w q:=by
 have i:IntKind.i64.wrap (((a:Nat):Int)+(b:Nat)-1)=((a+b-1:Nat):Int):=by rw[AI];omega
 have j:IntKind.i64.wrap ((((a:Nat):Int)+(b:Nat)-1).tdiv (b:Nat))=(q:Nat):=by
  have d:(a+b-1) / b<=a+b-1:=CY _ _;rw[show ((a:Nat):Int)+(b:Nat)-1=((a+b-1:Nat):Int) from Z,CT Z,<- c,<- Ct,AI];omega
 have e:RowKit.wrap64 (((a+b-1:Nat):Int) / ((b:Nat):Int))=(q:Nat):=by
  have d:(a+b-1) / b<=a+b-1:=CY _ _;rw[<- c,<- Ct];unfold RowKit.wrap64;omega
 have f:¬ ((b:Nat):Int)=0:=Z
 have k:(((b:Nat):Int) == 0)=false:=uq f
 clear c;go_enter func299,ntmps299
 go_wp2
 go_ret;exact⟨Vp e,rfl⟩
section
variable (w:World) (B:Nat) (h1:1<=B) (h2:B<=64)
include h1 h2
theorem PagesR_is:cr 281 #[Je B] w (pgs B:Nat):=by
 have a:=fun W=>QAo B 15 (pgs B) Z Z (by unfold pgs;omega) W;obtain⟨b,c,d⟩:=Kq w B;unfold Je;go_enter func281,ntmps281;go_wp2_with (refine(a _).mono ?_;clear a;rintro e w' ⟨rfl,rfl⟩);go_ret;exact⟨rfl,kq.alloc _⟩
omit h1 h2 in
theorem RegionLenR_is:cr 280 #[Je B] w (ii 2):=by
 have hU:∀ W,cq 299 #[ii 83,ii 64] W (ii 2):=fun W=>QAo 83 64 2 Z Z Z W;obtain⟨c0,c1,c2⟩:=Kq w B;unfold Je;go_enter func280,ntmps280;go_wp2_with (refine(hU _).mono ?_;clear hU;rintro e w' ⟨rfl,rfl⟩);go_ret;exact⟨rfl,kq.alloc _⟩
theorem ConfigMayR_is:cr 291 #[Je B] w (.bool true):=by
 have a:=fun n lo hi W=>JD n lo hi _ rfl W;have b:decide ((1:Int)<=(B:Nat)/\((B:Nat):Int)<=64)=true:=by simp;omega
 have c:decide ((8:Int)<=8/\(8:Int)<=32)=true:=sq
 have d:decide ((24:Int)<=24/\(24:Int)<=64)=true:=sq
 obtain⟨f,g,h⟩:=Kq w B;unfold Je;go_enter func291,ntmps291;go_wp2_with (refine(a _ _ _ _).mono ?_;rintro e w' ⟨rfl,rfl⟩);go_ret;exact⟨by simp[b,c,d],kq.alloc _⟩
omit h1 h2 in
theorem Jr (k:Nat) (hk:k<=1):cr 202 #[Je B,k] w (2+2*k:Nat):=by
 have hW:=fun W=>JD (k:Nat) 0 1 true (by simp;omega) W;have hL:=fun W=>RegionLenR_is W B;have e1:IntKind.i64.wrap ((2:Int)+(k:Nat)*2)=(2+2*k:Nat):=by rw[AI];omega
 obtain⟨c0,c1,c2⟩:=Kq w B;unfold Je at hL ⊢;go_enter func202,ntmps202
 go_wp2_with (first
  | (go_at_call 147;refine(hW _).mono ?_;clear hW;rintro e w' ⟨rfl,rfl⟩)
  | (go_at_call 280;refine(hL _).mono ?_;clear hL;rintro e w1 ⟨rfl,hk1⟩))
 go_ret;exact⟨Vp Z,(kq.alloc _).tO hk1⟩
theorem YAr (s:Nat) (m:s<=7):cr 179 #[Je B,s] w (6+4*pgs B+24*s:Nat):=by
 have h:=fun W=>JD (s:Nat) 0 7 true (by simp;omega) W;have b:=fun W=>RegionLenR_is W B;have a:=fun W=>PagesR_is W B h1 h2;have j:=(ZD h1 h2).2;obtain⟨P,c⟩:=ex (pgs B);rw[<- c] at a j ⊢;have n:=ZB c;clear c;have k:=Blk.new w 28 #[ii B,ii 8,ii 24];have l:kz w (w.alloc (.cells #[ii B,ii 8,ii 24] 28)):=kq.alloc _;obtain⟨o,p,q⟩:=Kq w B;unfold Je at b a ⊢;go_enter func179,ntmps179;go_wp2_with (refine(h _).mono ?_;clear h;rintro e w' ⟨rfl,rfl⟩);have d:=k.drew;refine ZT (fun w'=>cl w' w.heap.size (ii B)/\cl w' (aq w.heap.size 1) (ii 8)/\cl w' (aq w.heap.size 2) (ii 24)) 12 [[0,4,8,9,10,11],[1,2,3],[5,6,7]] (XD d) ?_;simp only[PI];iterate 6 refine wG ?_
 refine JB rq fun K f=>?_;go_wp2_with (refine(b _).mono ?_;clear b;rintro e w1 ⟨rfl,g⟩);refine f _ _ (XD (d.kO g)) ?_
 iterate 2 refine wG ?_
 refine JB rq fun K f=>?_;go_wp2_with (refine(a _).mono ?_;clear a;rintro e r ⟨rfl,i⟩);refine f _ _ ((XD ((d.kO g).kO i))) ?_
 iterate 2 refine wG ?_
 refine VB ?_;go_wp2_with fail;go_ret;exact⟨Vp Z,(l.drew.tO g).tO i⟩
theorem SectorsR_is:cr 68 #[Je B] w (198+4*pgs B:Nat):=by
 have a:∀ W,cr 179 #[Je B,zz] W (6+4*pgs B:Nat):=fun W=>YAr W B h1 h2 0 Z;have f:=(ZD h1 h2).2;obtain⟨P,b⟩:=ex (pgs B);rw[<- b] at a f ⊢;have j:=ZB b;clear b;have g:=Blk.new w 28 #[ii B,ii 8,ii 24];have h:kz w (w.alloc (.cells #[ii B,ii 8,ii 24] 28)):=kq.alloc _;have c:=g.drew;unfold Je at a ⊢;go_enter func68,ntmps68;go_wp2_with fail;refine ZT (fun w'=>cl w' w.heap.size (ii B)/\cl w' (aq w.heap.size 1) (ii 8)/\cl w' (aq w.heap.size 2) (ii 24)) 7 [[0,2,3,4,5,6],[1]] (XD c) ?_;simp only[PI];iterate 6 refine wG ?_
 refine JB rq fun K i=>?_;go_wp2_with (refine(a _).mono ?_;clear a;rintro e w1 ⟨rfl,d⟩);refine i _ _ (XD (c.kO d)) ?_
 try simp only[Act.put,PU]
 refine VB ?_;go_wp2_with fail;go_ret;exact⟨Vp Z,h.drew.tO d⟩
theorem QAk (o:Bool) (k:Nat) (q:k<pgs B):Calls prog 297 #[Je B,.bool o,k,zz] w fun e w'=>(∃ n:Nat,e=.returned n/\n<6+4*pgs B)/\kz w w':=by
 have g:∀ W,cq 147 #[zz,zz,ii 1] W (.bool true):=fun W=>JD 0 0 1 true sq W;have r:=(ZD h1 h2).2;have c:=fun W=>RegionLenR_is W B;have h:=fun W=>PagesR_is W B h1 h2;obtain⟨P,p⟩:=ex (pgs B);rw[<- p] at h r q ⊢;have i:=fun W=>JD (k:Nat) 0 ((P:Nat)-1) true (by simp;omega) W;have t:=ZB p;clear p;have a:=Blk.new w 28 #[ii B,ii 8,ii 24];have b:kz w (w.alloc (.cells #[ii B,ii 8,ii 24] 28)):=kq.alloc _;obtain⟨j,l,m⟩:=XD a;unfold Je at c h ⊢;cases o
 . go_enter func297,ntmps297
   go_wp2_with (first
    | (go_at_call 147;first | (refine(g _).mono ?_;clear g;rintro e w' ⟨rfl,rfl⟩) | (refine(i _).mono ?_;clear i;rintro e w' ⟨rfl,rfl⟩))
    | (go_at_call 281;refine(h _).mono ?_;rintro e w1 ⟨rfl,d⟩;replace a:=a.kO d;replace b:=b.tO d;obtain⟨j,l,m⟩:=XD a)
    | (go_at_call 280;refine(c _).mono ?_;clear c;rintro e s ⟨rfl,f⟩;replace a:=a.kO f;replace b:=b.tO f;obtain⟨j,l,m⟩:=XD a))
   go_ret;exact⟨⟨6+2*k,Vp Z,Z⟩,b⟩
 go_enter func297,ntmps297
 go_wp2_with (first
  | (go_at_call 147;first | (refine(g _).mono ?_;clear g;rintro e w' ⟨rfl,rfl⟩) | (refine(i _).mono ?_;clear i;rintro e w' ⟨rfl,rfl⟩))
  | (go_at_call 281;refine(h _).mono ?_;rintro e w1 ⟨rfl,d⟩;replace a:=a.kO d;replace b:=b.tO d;obtain⟨j,l,m⟩:=XD a)
  | (go_at_call 280;refine(c _).mono ?_;clear c;rintro e s ⟨rfl,f⟩;replace a:=a.kO f;replace b:=b.tO f;obtain⟨j,l,m⟩:=XD a))
 go_ret;exact⟨⟨6+2*k+2*P,Vp Z,Z⟩,b⟩
end
def RowN (w1 w:World) (g:Nat) (u:Value) (N a:Nat):Prop:=kz w1 w/\∃ bs:List UInt8,bs.length=N/\RefAt w w1.heap.size g u bs a
namespace RowN
variable {w1 w w':World} {g N a:Nat} {u:Value}
theorem kO (h:RowN w1 w g u N a) (b:kz w w'):RowN w1 w' g u N a:=⟨h.1.tO b,h.2.imp fun _ h=>⟨h.1,h.2.kO b⟩⟩
theorem cells (h:RowN w1 w g u N a):cl w g u/\cl w (aq g 1) (ii a):=by
 obtain⟨_,bs,_,h⟩:=h;exact⟨h.c0,h.c1⟩
theorem lt (h:RowN w1 w g u N a):g<w.heap.size:=h.2.elim fun _ h=>h.2.blk.lt
theorem froz (h:RowN w1 w g u N a):w.frozen? ⟨g,1,none⟩=false:=by
 obtain⟨_,bs,_,h⟩:=h;exact h.blk.frozen 1
theorem own (h:RowN w1 w g u N a):∃ bs:List UInt8,bs.length=N/\w.ownsRow w1.heap.size 5 1 u N (bys bs):=by
 obtain⟨_,bs,b,h⟩:=h;have:=h.own;rw[b] at this;exact⟨bs,b,this⟩
theorem form (h:RowN w1 w g u N a) (d:0<N):∃ b c,u=.slice (some (aq b 0)) N c/\N<=c:=by
 obtain⟨bs,e,h⟩:=h.own;exact JI h d
theorem setAt (h:RowN w1 w g u N a) (b:Nat) (i:b<=N):RowN w1 (w.setCell (aq g 1) (.int .i64 (b:Nat))) g u N b:=by
 obtain⟨d,bs,e,h⟩:=h;have f:g∉u.ownBlock.toList:=h.not_mem;refine⟨d.trans ((Keep.refl [g] w).sc g 1) (fun x c=>.inr ?_),bs,e,⟨uq (h.blk.set 1 (.int .i64 (b:Nat))),own_set h.own f _,h.base,Z,h.few⟩⟩;simp at c;subst c;exact h.base
end RowN
theorem ZBp (N:Nat) (a:N<=65536) (w:World):Calls prog 271 #[N] w fun e w'=>∃ g u,e=.returned (pq g)/\RowN w w' g u N 0:=by
 refine(VAC N a w).mono ?_;rintro e w' ⟨g,u,rfl,h,b⟩;exact⟨g,u,rfl,b,_,sq,h⟩
theorem YBp {w1 w:World} {g N a:Nat} {u:Value} (h:RowN w1 w g u N a) {S:Option Addr} {m:Nat} (b:Nat) (ys:List UInt8) (c:Rd w S m (bys ys)) (j:a+m<=N) :
 Calls prog 272 #[pq g,.slice S m b] w fun e w'=>e=.returned (.bool true)/\RowN w1 w' g u N (a+m):=by
 obtain⟨d,bs,f,h⟩:=h;have k:ys.length=m:=uq c.1
 refine(XBp h b ys c Z).mono ?_;rintro e w' ⟨rfl,h1,h2⟩;exact⟨rfl,d.trans h2 (fun x i=>.inr (h.fresh x i)),_,by rw[QG _ _ _ Z];exact f,h1⟩
theorem QBd {w1 w:World} {g N a k:Nat} {u:Value} (h:RowN w1 w g u N a) (j:k=1\/k=4) (zs:List Nat) (l:∀ z∈zs,z<256 ^ k) (o:0<zs.length) (v:a+k*zs.length<=N) (cs:Array Value) (d:cs.toList=XP zs) (m:Nat) (q:m=zs.length) :
 Calls prog 273 #[pq g,k,.slice (some w.heap.size) m m] (w.alloc (.cells cs 3)) fun e w'=>e=.returned (.bool true)/\RowN w1 w' g u N (a+k*zs.length):=by
 subst q;have r:=h.1.alloc (.cells cs 3);have h2:=h.kO (kq.alloc (.cells cs 3));obtain⟨_,bs,c,f⟩:=h2
 have s:Rd (w.alloc (.cells cs 3)) (some w.heap.size) zs.length (XP zs):=by
  have c:cs.toList.length=zs.length:=by rw[d,length_nats]
  have:=Rd.of_blk (n:=zs.length) (Blk.new w 3 cs) (uq (Ar c.symm))
  rwa [d,AK sq] at this
 obtain⟨_,y,A,i⟩:=h;refine(JBo k f j zs.length zs s (fun p t=>?_) l o Z).mono ?_
 . cases t
   intro b;rcases AL.1 b with e | b
   . exact absurd (show w.heap.size=g from e) (C7 i.blk.lt)
   exact absurd (own_mem i.own b).2 (CQ _)
 rintro e w' ⟨rfl,h1,h2⟩
 exact⟨rfl,r.trans h2 (fun x b=>.inr (f.fresh x b)),_,by rw[QG _ _ _ (by rw[KD];omega)];exact c,h1⟩
theorem XBh {w1 w:World} {g N a:Nat} {u:Value} (h:RowN w1 w g u N a) (k z:Nat) (b:k=1\/k=4) (c:z<256 ^ k) (i:a+k<=N) :
 Calls prog 274 #[pq g,k,z] w fun e w'=>e=.returned (.tuple #[])/\RowN w1 w' g u N (a+k):=by
 obtain⟨d,bs,f,h⟩:=h;refine(QBp (k:=k) w1.heap.size g a z u bs h b c Z d rfl).mono ?_;rintro e w' ⟨rfl,h1,h2⟩;exact⟨rfl,h2,_,by rw[QG _ _ _ (by rw[length_le];omega)];exact f,h1⟩