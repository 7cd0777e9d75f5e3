/- Lemmas of the proof, with their conditions. -/
import Derived.Test.YtfedaknhecbehaaGreatM09
import Derived.Shelf.RegionOpen
namespace Go.Proofs.YtfedaknhecbehaaGreat
open Tryz
variable {w:World}
set_option linter.all false
set_option maxHeartbeats 2000000
set_option maxRecDepth 20000
section
open Go.RowKit Go.Shelf
attribute [local go_sem] AW
def VQ (is:List PItem):Nat:=is.findIdx (fun i=>i.k == 7)
def YS (is:List PItem):Bool:=decide (VQ is<is.length)
theorem QAh (g n c:Nat) (is:List PItem) (f:Rd w (some g) (n*4) (is.flatMap itc)) (A:is.length=n) (T:n<=6) :
 cr 429 #[.slice (some g) n c,.func (.func 430) #[] #[]] w (ii (if VQ is<n then (VQ is:Nat) else (-1:Int))):=by
 have u:∀ (v B C D:Nat) W,cr 430 #[.agg #[ii v,ii B,ii C,ii D]] W (.bool (decide (v=7))):=fun v B C D W=>by
  go_enter func430,ntmps430
  go_wp2
  go_ret;exact⟨JF (by rw[Bh];simp;omega),kq.alloc _⟩
 obtain⟨U,y⟩:∃ r:Int,r=(if VQ is<n then ((VQ is:Nat):Int) else (-1:Int)):=⟨_,rfl⟩;rw[<- y];have E:=ZB y;have J:=ZB A;clear A y;go_enter func429,ntmps429
 go_wp2
 go_loopw [5,8] (fun _ i wr=>∃ m:Nat,m<=n/\m<=VQ is/\i=.int .i64 m/\kz w wr) (fun _ i _=>n-(intOf i).toNat)
 case atStart=>exact⟨0,AP _,AP _,rfl,kq⟩
 obtain⟨m,V,k,rfl,b⟩:=hrel;by_cases F:m<n
 . have l:m<is.length:=by rw[ZA J];exact F
   have X:((m:Nat):Int)<(n:Nat):=Z
   have Y:g<wr.heap.size:=(VI JH (f.keep b) l (j:=0) Z).1;have K:=(VI JH (f.keep b) l (j:=0) Z).2;have L:=(VI JH (f.keep b) l (j:=1) Z).2;have M:=(VI JH (f.keep b) l (j:=2) Z).2;have N:=(VI JH (f.keep b) l (j:=3) Z).2
   have G:is[m].k=7↔m=VQ is:=by
    constructor
    . intro h
      refine Nat.le_antisymm k (Nat.le_of_not_lt fun O=>?_);have:=DP (p:=fun i:PItem=>i.k == 7) (xs:=is) (i:=m) O;rw[h] at this;simp at this
    intro h
    have:=Cj (p:=fun i:PItem=>i.k == 7) (xs:=is) (w:=by unfold VQ at h;omega);have H:is[m]=is[is.findIdx (fun i=>i.k == 7)]'(by unfold VQ at h;omega):=by congr 1
    rw[H];exact CK.1 this
   have s:=ZB G;have P:=ZB k;clear G k;generalize is[m]=it at *;obtain⟨I,Q,R,S⟩:=it;simp only[itc,Bj,BX,BK] at K L M N;have t:=u I Q R S;by_cases d:I=7
   . have o:=(ZA s).1 d
     have q:=ZB o;clear o u s;rw[AH d] at t;clear d;go_wp2_with (refine(t _).mono ?_;rintro e w1 ⟨rfl,z⟩);go_ret;exact⟨JL (a:=((m:Nat):Int)) (by rw[ZA E,<- ZA q,AJ F]),b.tO z⟩
   have o:m+1<=VQ is:=by
    have h1:=ZA P;have H:m≠VQ is:=fun h=>d ((ZA s).2 h);omega
   have q:=ZB o;clear o u s;rw[AU d] at t;clear d;go_wp2_with (refine(t _).mono ?_;rintro e w1 ⟨rfl,z⟩);go_roundw;case rel=>exact⟨m+1,Z,ZA q,by go_num,b.tO z⟩
   case measure=>simp[intOf];omega
 obtain rfl:m=n:=Z
 have q:=ZB k;clear k
 go_wp2
 go_ret;exact⟨JL (a:=(-1:Int)) (by rw[ZA E,AF (by have:=ZA q;omega)]),b⟩
theorem JAc (l o p g n c:Nat) (f:Value) (is:List PItem) (s:Rd w (some g) (n*4) (is.flatMap itc)) (E:is.length=n) (F:n<=6) (I:f.oneCell'=true) :
 Calls prog 384 #[.agg #[ii l,ii o,ii p,.slice (some g) n c,f]] w fun e w'=>(∃ v,e=.returned (.tuple #[v,.bool (YS is)]))/\kz w w':=by
 have d:=fun W (a:kz w W)=>QAh g n c is (s.keep a) E F;have t:=Blk.new w 280 #[ii l,ii o,ii p,.slice (some g) n c,f];have h:=(Keep.refl [] w).alloc (.cells #[ii l,ii o,ii p,.slice (some g) n c,f] 280);obtain⟨u,y,z,A,B⟩:=VD t;by_cases C:VQ is<n
 . have q:YS is=true:=by unfold YS;exact AH Z
   rw[q];have b:=fun W (a:kz w W)=>(VI JH (s.keep a) (i:=VQ is) Z (j:=3) Z);simp only[AJ C] at d;have G:=fun W a=>(b W a).1;replace b:=fun W a=>(b W a).2;simp only[itc,Bj,BX] at b;obtain⟨J,D⟩:=ex ((is[VQ is]' Z).v);simp only[<- D] at b;clear D;generalize VQ is=m at *;have H:=ZB b;have K:((m:Nat):Int)<(n:Nat):=Z
   clear b;go_enter func384,ntmps384
   go_wp2_with (
    refine(d _ h).mono ?_;clear d;rintro e w1 ⟨rfl,k⟩;clear u y z A B;have r:=h.tO k;obtain⟨u,y,z,A,B⟩:=VD (t.kO k);have L:=G _ r;have M:=ZA H _ r)
   go_ret2;exact⟨⟨_,rfl⟩,r⟩
 have q:YS is=false:=by unfold YS;exact AU Z
 rw[q];simp only[AF C] at d;go_enter func384,ntmps384;go_wp2_with (refine(d _ h).mono ?_;clear d;rintro e w1 ⟨rfl,k⟩);go_ret2;exact⟨⟨_,rfl⟩,h.tO k⟩