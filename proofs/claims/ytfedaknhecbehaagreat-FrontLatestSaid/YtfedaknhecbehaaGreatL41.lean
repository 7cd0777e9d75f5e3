/- Lemmas of the proof, with their conditions. -/
import Derived.Test.YtfedaknhecbehaaGreatL05
import Derived.Test.YtfedaknhecbehaaGreatL08
import Derived.Test.YtfedaknhecbehaaGreatL17
namespace Go.Proofs.YtfedaknhecbehaaGreat
open Tryz Go.RowKit
set_option linter.all false
set_option maxHeartbeats 1000000
def JBN (B:Nat):Value:=.agg #[ii B,ii 8,ii 24]
theorem ZAa (w:World) (B:Nat):(w.alloc (.cells #[ii B,ii 8,ii 24] 28)).cell? w.heap.size=some (.int .i64 B)/\(w.alloc (.cells #[ii B,ii 8,ii 24] 28)).cell? (aq w.heap.size 1)=some (.int .i64 8)/\(w.alloc (.cells #[ii B,ii 8,ii 24] 28)).cell? (aq w.heap.size 2)=some (.int .i64 24):=by
 exact⟨sq,sq,sq⟩
theorem XZ {w:World} {g B:Nat} (h:Blk w g 28 #[ii B,ii 8,ii 24]):cl w g (ii B)/\cl w (aq g 1) (ii 8)/\cl w (aq g 2) (ii 24):=
 ⟨uq (h.cell 0),uq (h.cell 1),uq (h.cell 2)⟩
theorem ZAX {a b:Int} (h:a=b):Ending.returned (ii a)=.returned (ii b):=by rw[h]
theorem YBZ (a b q:Nat) (g:0<b) (h:a+b<=1000000) (c:(a+b-1) / b=q) (w:World):cq 299 #[a,b] w q:=by
 have i:IntKind.i64.wrap (((a:Nat):Int)+(b:Nat)-1)=((a+b-1:Nat):Int):=by rw[AK];omega
 have j:IntKind.i64.wrap ((((a:Nat):Int)+(b:Nat)-1).tdiv (b:Nat))=(q:Nat):=by
  have d:(a+b-1) / b<=a+b-1:=CL _ _;rw[show ((a:Nat):Int)+(b:Nat)-1=((a+b-1:Nat):Int) from Z,C9 Z,<- c,<- Cs,AK];omega
 have e:RowKit.wrap64 (((a+b-1:Nat):Int) / ((b:Nat):Int))=(q:Nat):=by
  have d:(a+b-1) / b<=a+b-1:=CL _ _;rw[<- c,<- Cs];unfold RowKit.wrap64;omega
 have f:¬ ((b:Nat):Int)=0:=Z;have k:(((b:Nat):Int) == 0)=false:=uq f;clear c;go_enter func299,ntmps299
 go_wp2
 go_ret;exact⟨ZAX e,rfl⟩
section
variable (w:World) (B:Nat) (h1:1<=B) (h2:B<=64)
include h1 h2
theorem PagesR_is:cr 281 #[JBN B] w (pgs B:Nat):=by
 have a:=fun W=>YBZ B 15 (pgs B) Z Z (by unfold pgs;omega) W;obtain⟨b,c,d⟩:=ZAa w B;unfold JBN;go_enter func281,ntmps281;go_wp2_with (apply mq (a _);clear a);go_ret;exact⟨rfl,kq.alloc _⟩
omit h1 h2 in
theorem RegionLenR_is:cr 280 #[JBN B] w (ii 2):=by
 have hU:∀ W,cq 299 #[ii 83,ii 64] W (ii 2):=fun W=>YBZ 83 64 2 Z Z Z W;obtain⟨c0,c1,c2⟩:=ZAa w B;unfold JBN;go_enter func280,ntmps280;go_wp2_with (apply mq (hU _);clear hU);go_ret;exact⟨rfl,kq.alloc _⟩
theorem QAu (s:Nat) (m:s<=7):cr 179 #[JBN B,s] w (6+4*pgs B+24*s:Nat):=by
 have h:=fun W=>QG (s:Nat) 0 7 true (by simp;omega) W;have b:=fun W=>RegionLenR_is W B;have a:=fun W=>PagesR_is W B h1 h2;have j:=(JD h1 h2).2;obtain⟨P,c⟩:=ex (pgs B);rw[<- c] at a j ⊢;have n:=JB c;clear c;have k:=Blk.new w 28 #[ii B,ii 8,ii 24];have l:kz w (w.alloc (.cells #[ii B,ii 8,ii 24] 28)):=kq.alloc _;obtain⟨o,p,r⟩:=ZAa w B;unfold JBN at b a ⊢;go_enter func179,ntmps179;go_wp2_with (apply mq (h _);clear h);have d:=k.drew;refine ZT (fun w'=>cl w' w.heap.size (ii B)/\cl w' (aq w.heap.size 1) (ii 8)/\cl w' (aq w.heap.size 2) (ii 24)) 12 [[0,4,8,9,10,11],[1,2,3],[5,6,7]] (XZ d) ?_;simp only[PI];iterate 6 refine wG ?_
 refine YB rq (fun K f=>?_);go_wp2_with (apply (b _).mono;clear b;rintro e w1 ⟨rfl,g⟩);refine f _ _ (XZ (d.kO g)) ?_;iterate 2 refine wG ?_
 refine YB rq (fun K f=>?_);go_wp2_with (apply (a _).mono;clear a;rintro e t ⟨rfl,i⟩);refine f _ _ ((XZ ((d.kO g).kO i))) ?_;iterate 2 refine wG ?_
 refine KB ?_;go_wp2_with fail;go_ret;exact⟨ZAX Z,(l.drew.tO g).tO i⟩
theorem SectorsR_is:cr 68 #[JBN B] w (198+4*pgs B:Nat):=by
 have a:∀ W,cr 179 #[JBN B,zz] W (6+4*pgs B:Nat):=fun W=>QAu W B h1 h2 0 Z;have f:=(JD h1 h2).2;obtain⟨P,b⟩:=ex (pgs B);rw[<- b] at a f ⊢;have j:=JB b;clear b;have g:=Blk.new w 28 #[ii B,ii 8,ii 24];have h:kz w (w.alloc (.cells #[ii B,ii 8,ii 24] 28)):=kq.alloc _;have c:=g.drew;unfold JBN at a ⊢;go_enter func68,ntmps68;go_wp2_with fail;refine ZT (fun w'=>cl w' w.heap.size (ii B)/\cl w' (aq w.heap.size 1) (ii 8)/\cl w' (aq w.heap.size 2) (ii 24)) 7 [[0,2,3,4,5,6],[1]] (XZ c) ?_;simp only[PI];iterate 6 refine wG ?_
 refine YB rq (fun K i=>?_);go_wp2_with (apply (a _).mono;clear a;rintro e w1 ⟨rfl,d⟩);refine i _ _ (XZ (c.kO d)) ?_
 try simp only[Act.put,PU]
 refine KB ?_;go_wp2_with fail;go_ret;exact⟨ZAX Z,h.drew.tO d⟩
end
def RowN (w1 w:World) (g:Nat) (u:Value) (N a:Nat):Prop:=kz w1 w/\∃ bs:List UInt8,bs.length=N/\RefAt w w1.heap.size g u bs a
namespace RowN
variable {w1 w w':World} {g N a:Nat} {u:Value}
theorem kO (h:RowN w1 w g u N a) (b:kz w w'):RowN w1 w' g u N a:=⟨h.1.tO b,h.2.imp fun _ h=>⟨h.1,h.2.kO b⟩⟩
theorem cells (h:RowN w1 w g u N a):cl w g u/\cl w (aq g 1) (ii a):=by
 obtain⟨_,bs,_,h⟩:=h;exact⟨h.c0,h.c1⟩
theorem lt (h:RowN w1 w g u N a):g<w.heap.size:=h.2.elim fun _ h=>h.2.blk.lt
theorem own (h:RowN w1 w g u N a):∃ bs:List UInt8,bs.length=N/\w.ownsRow w1.heap.size 5 1 u N (bys bs):=by
 obtain⟨_,bs,b,h⟩:=h;have:=h.own;rw[b] at this;exact⟨bs,b,this⟩