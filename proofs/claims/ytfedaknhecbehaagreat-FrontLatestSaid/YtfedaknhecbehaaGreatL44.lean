/- Lemmas of the proof, with their conditions. -/
import Derived.Test.YtfedaknhecbehaaGreatL09
import Derived.Shelf.RegionOpen
namespace Go.Proofs.YtfedaknhecbehaaGreat
open Tryz
variable {w:World}
set_option linter.all false
set_option maxHeartbeats 2000000
set_option maxRecDepth 20000
section
open Go.RowKit Go.Shelf
attribute [local go_sem] AZ
def XR (is:List PItem):Nat:=is.findIdx (fun i=>i.k == 7)
def XT (is:List PItem):Bool:=decide (XR is<is.length)
theorem ZAp (g n c:Nat) (is:List PItem) (f:Rd w (some g) (n*4) (is.flatMap itc)) (B:is.length=n) (U:n<=6) :
 cr 429 #[.slice (some g) n c,.func (.func 430) #[] #[]] w (ii (if XR is<n then (XR is:Nat) else (-1:Int))):=by
 have v:∀ (y C D E:Nat) W,cr 430 #[.agg #[ii y,ii C,ii D,ii E]] W (.bool (decide (y=7))):=fun y C D E W=>by
  go_enter func430,ntmps430
  go_wp2
  go_ret;exact⟨VF (by rw[Bg];simp;omega),kq.alloc _⟩
 obtain⟨V,z⟩:∃ r:Int,r=(if XR is<n then ((XR is:Nat):Int) else (-1:Int)):=⟨_,rfl⟩;rw[<- z];have F:=JB z;have K:=JB B;clear B z;go_enter func429,ntmps429
 go_wp2
 go_loopw [5,8] (fun _ i wr=>∃ m:Nat,m<=n/\m<=XR is/\i=.int .i64 m/\kz w wr) (fun _ i _=>n-(intOf i).toNat)
 case atStart=>exact⟨0,AS _,AS _,rfl,kq⟩
 obtain⟨m,X,k,rfl,b⟩:=hrel;by_cases G:m<n
 . have l:m<is.length:=by rw[JA K];exact G
   have Y:((m:Nat):Int)<(n:Nat):=Z;have a0:g<wr.heap.size:=(KI YG (f.keep b) l (j:=0) Z).1;have L:=(KI YG (f.keep b) l (j:=0) Z).2;have M:=(KI YG (f.keep b) l (j:=1) Z).2;have N:=(KI YG (f.keep b) l (j:=2) Z).2;have O:=(KI YG (f.keep b) l (j:=3) Z).2
   have H:is[m].k=7↔m=XR is:=by
    constructor
    . intro h
      refine Nat.le_antisymm k (Nat.le_of_not_lt fun P=>?_);have:=DK (p:=fun i:PItem=>i.k == 7) (xs:=is) (i:=m) P;rw[h] at this;simp at this
    intro h;have:=Ck (p:=fun i:PItem=>i.k == 7) (xs:=is) (w:=by unfold XR at h;omega);have I:is[m]=is[is.findIdx (fun i=>i.k == 7)]'(by unfold XR at h;omega):=by congr 1
    rw[I];exact CO.1 this
   have t:=JB H;have Q:=JB k;clear H k;generalize is[m]=it at *;obtain⟨J,R,S,T⟩:=it;simp only[itc,Bi,Bo,BV] at L M N O;have u:=v J R S T;by_cases d:J=7
   . have o:=(JA t).1 d
     have s:=JB o;clear o v t;rw[AJ d] at u;clear d;go_wp2_with (apply (u _).mono;rintro e w1 ⟨rfl,A⟩);go_ret;exact⟨VL (a:=((m:Nat):Int)) (by rw[JA F,<- JA s,AP G]),b.tO A⟩
   have o:m+1<=XR is:=by
    have h1:=JA Q;have I:m≠XR is:=fun h=>d ((JA t).2 h);omega
   have s:=JB o;clear o v t;rw[AX d] at u;clear d;go_wp2_with (apply (u _).mono;rintro e w1 ⟨rfl,A⟩);go_roundw;case rel=>exact⟨m+1,Z,JA s,by go_num,b.tO A⟩
   case measure=>simp[intOf];omega
 obtain rfl:m=n:=Z;have s:=JB k;clear k
 go_wp2
 go_ret;exact⟨VL (a:=(-1:Int)) (by rw[JA F,AL (by have:=JA s;omega)]),b⟩
theorem JAi (l o p g n c:Nat) (f:Value) (is:List PItem) (t:Rd w (some g) (n*4) (is.flatMap itc)) (F:is.length=n) (G:n<=6) (J:f.oneCell'=true) :
 Calls prog 384 #[.agg #[ii l,ii o,ii p,.slice (some g) n c,f]] w fun e w'=>(∃ v,e=.returned (.tuple #[v,.bool (XT is)]))/\kz w w':=by
 have d:=fun W (a:kz w W)=>ZAp g n c is (t.keep a) F G;have u:=Blk.new w 280 #[ii l,ii o,ii p,.slice (some g) n c,f];have h:=(Keep.refl [] w).alloc (.cells #[ii l,ii o,ii p,.slice (some g) n c,f] 280);obtain⟨y,z,A,B,C⟩:=VD u;by_cases D:XR is<n
 . have r:XT is=true:=by unfold XT;exact AJ Z
   rw[r];have b:=fun W (a:kz w W)=>(KI YG (t.keep a) (i:=XR is) Z (j:=3) Z);simp only[AP D] at d;have H:=fun W a=>(b W a).1;replace b:=fun W a=>(b W a).2;simp only[itc,Bi,Bo] at b;obtain⟨K,E⟩:=ex ((is[XR is]' Z).v);simp only[<- E] at b;clear E;generalize XR is=m at *;have I:=JB b;have L:((m:Nat):Int)<(n:Nat):=Z;clear b;go_enter func384,ntmps384
   go_wp2_with (
    apply (d _ h).mono;clear d;rintro e w1 ⟨rfl,k⟩;clear y z A B C;have s:=h.tO k;obtain⟨y,z,A,B,C⟩:=VD (u.kO k);have M:=H _ s;have N:=JA I _ s)
   go_ret2;exact⟨⟨_,rfl⟩,s⟩
 have r:XT is=false:=by unfold XT;exact AX Z
 rw[r];simp only[AL D] at d;go_enter func384,ntmps384;go_wp2_with (apply (d _ h).mono;clear d;rintro e w1 ⟨rfl,k⟩);go_ret2;exact⟨⟨_,rfl⟩,h.tO k⟩