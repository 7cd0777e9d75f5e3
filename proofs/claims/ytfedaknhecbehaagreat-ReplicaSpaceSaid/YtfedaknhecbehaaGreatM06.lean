/- Lemmas of the proof, with their conditions. -/
import Derived.Test.YtfedaknhecbehaaGreatM05
import Derived.Lib.BufferRead
namespace Go.Proofs.YtfedaknhecbehaaGreat
open Tryz Go.RowKit
variable {A S:Option Addr} {n m g k s b c e d r N:Nat} {w w1 W0:World} {x0 x1 x2 x3 x4 v:Value} {xs H:List UInt8}
set_option linter.all false
set_option maxHeartbeats 4000000
set_option maxRecDepth 20000
theorem QC (n lo hi:Int) (b:Bool) (a:decide (lo<=n/\n<=hi)=b) (w:World) :
 cq 354 #[ii n,ii lo,ii hi] w (.bool b):=by
 subst a;by_cases c:lo<=n
 . by_cases d:n<=hi
   all_goals
    go_enter func354,ntmps354
    go_wp2
    go_ret;exact⟨by simp[c,d],rfl⟩
 go_enter func354,ntmps354
 go_wp2
 go_ret;exact⟨by simp;omega,rfl⟩
def frv (k v s b c e d:Int) (x:Value):Value:=.agg #[ii k,ii v,ii s,ii b,ii c,ii e,ii d,x]
theorem VJ (k v s b c e d:Int) (A:Option Addr) (n m:Nat) (w:World) :
 cr 353 #[frv k v s b c e d (.slice A n m)] w (.agg #[ii k,ii v,zz,zz,zz,zz,zz,zn]):=by
 unfold frv;go_enter func353,ntmps353
 go_wp2
 exact Ac (v:=.agg #[ii k,ii v,zz,zz,zz,zz,zz,zn]) (by simp[results,results353,go_sem]) rfl ⟨rfl,(kq.alloc _).alloc _⟩
theorem Yh (c:Nat) (xs:List UInt8) (e:Rd w A n (bys xs)):(convert 66 9 (.slice A n c)).run prog w=.ok (.string ⟨xs.toArray⟩) w:=by
 have f:xs.length=n:=uq e.1
 rcases BQ n with d | d
 . subst d
   obtain rfl:=Aw f;rcases A with _ | a
   . exact Lib.run_convert_nil_bytes w _ _ _ c underlying66 underlying5 underlying9
   exact run_convert_bytes_back w _ _ _ a c [] underlying66 underlying5 underlying9 sq
 obtain⟨b,o,rfl,_,g⟩:=e.2 d
 have:=run_convert_bytes_back (P:=prog) w 66 9 5 ⟨b,o,none⟩ c xs underlying66 underlying5 underlying9 (fun j h=>by rw[Bw];exact g j _ (Yn _ _ h))
 rwa [f] at this
theorem QN {B:Option Addr} (c d:Nat) (xs ys:List UInt8) (a:Rd w A n (bys xs)) (b:Rd w B m (bys ys)) :
 cq 261 #[.slice A n c,.slice B m d] w (.bool (decide (xs=ys))):=by
 have e:=Yh c xs a;have f:=Yh d ys b;go_enter func261,ntmps261
 go_wp2
 go_ret;exact⟨JF (by rw[Bh];simp),rfl⟩
theorem Xx (k v s b c e d a f g h i j l:Int) {A':Option Addr} {n':Nat} (m o:Nat) (xs ys:List UInt8) (E:Rd w A n (bys xs)) (F:Rd w A' n' (bys ys)) :
 Calls prog 355 #[frv k v s b c e d (.slice A n m),frv a f g h i j l (.slice A' n' o)] w fun r w'=>
  r=.returned (.bool (decide (k=a/\v=f/\s=g/\b=h/\c=i/\e=j/\d=l/\xs=ys)))/\kz w w':=by
 unfold frv;have p:=fun W (q:kz w W)=>QN m o xs ys (E.keep q) (F.keep q);by_cases t:k=a
 . subst t
   by_cases u:v=f
   . subst u
     by_cases y:s=g
     . subst y
       by_cases z:b=h
       . subst z
         by_cases B:c=i
         . subst B
           by_cases C:e=j
           . subst C
             by_cases D:d=l
             . subst D
               go_enter func355,ntmps355;go_wp2_with (refine(p _ ((kq.alloc _).alloc _)).mono ?_;clear p;rintro e w' ⟨rfl,rfl⟩);go_ret;exact⟨JF sq,(kq.alloc _).alloc _⟩
             go_enter func355,ntmps355
             go_wp2
             go_ret;exact⟨JF (by simp[D]),(kq.alloc _).alloc _⟩
           go_enter func355,ntmps355
           go_wp2
           go_ret;exact⟨JF (by simp[C]),(kq.alloc _).alloc _⟩
         go_enter func355,ntmps355
         go_wp2
         go_ret;exact⟨JF (by simp[B]),(kq.alloc _).alloc _⟩
       go_enter func355,ntmps355
       go_wp2
       go_ret;exact⟨JF (by simp[z]),(kq.alloc _).alloc _⟩
     go_enter func355,ntmps355
     go_wp2
     go_ret;exact⟨JF (by simp[y]),(kq.alloc _).alloc _⟩
   go_enter func355,ntmps355
   go_wp2
   go_ret;exact⟨JF (by simp[u]),(kq.alloc _).alloc _⟩
 go_enter func355,ntmps355
 go_wp2
 go_ret;exact⟨JF (by simp[t]),(kq.alloc _).alloc _⟩
def FrMay (k v s b c e d:Int) (data:List UInt8):Prop:=
 (1<=v/\v<=2147483647) /\
   ((k=1/\(1<=s/\s<=2147483647)/\(0<=b/\b<=63)/\c=0/\e=0/\d=0/\data.length=64) \/
    (k=2/\(1<=s/\s<=2147483647)/\(0<=b/\b<=63)/\(1<=c/\c<=64-b)/\e=0/\d=0/\data=[]) \/
    (k=3/\(1<=s/\s<=2147483647)/\b=0/\c=0/\(1<=e/\e<=2147483647)/\d=0/\data=[]) \/
    (k=8/\(0<=s/\s<=2147483647)/\b=0/\c=0/\(0<=e/\e<=2147483647)/\(0<=d/\d<=s)/\data=[]) \/
    (k=9/\s=0/\b=0/\c=0/\e=0/\d=0/\data=[]))
instance (k v s b c e d:Int) (data:List UInt8):Decidable (FrMay k v s b c e d data):=by unfold FrMay;infer_instance
theorem KB {a b c:Value} (h:Blk w g 211 #[x0,x1,x2,x3,x4,a,b,c]) :
 cl w g x0/\cl w (aq g 1) x1/\cl w (aq g 2) x2/\cl w (aq g 3) x3/\cl w (aq g 4) x4/\cl w (aq g 5) a/\cl w (aq g 6) b/\cl w (aq g 7) c:=
 ⟨uq (h.cell 0),uq (h.cell 1),uq (h.cell 2),uq (h.cell 3),uq (h.cell 4),uq (h.cell 5),uq (h.cell 6),uq (h.cell 7)⟩
theorem JBb (v s b c e d:Int) (m:Nat) (xs:List UInt8) (B:Rd w A n (bys xs)) (h:¬ (1<=v/\v<=2147483647)) :
 cr 263 #[frv 1 v s b c e d (.slice A n m)] w (.bool (decide (FrMay 1 v s b c e d xs))):=by
 have o:decide (FrMay 1 v s b c e d xs)=false:=by
  have F:xs.length=n:=uq B.1
  rw[AV];rintro⟨G,g | g | g | g | g⟩ <;> omega
 rw[o];clear o;unfold frv;have p:=fun W=>QC (v) (1) (2147483647) false (AU h) W;obtain⟨C,i⟩:∃ x,decide (1<=s/\s<=2147483647)=x:=⟨_,rfl⟩;have q:=fun W=>QC (s) (1) (2147483647) C i W;have H:=ZB i;clear i;obtain⟨D,j⟩:∃ x,decide (0<=b/\b<=63)=x:=⟨_,rfl⟩;have t:=fun W=>QC (b) (0) (63) D j W;have I:=ZB j;clear j;have u:=Blk.new w 211 #[ii 1,ii v,ii s,ii b,ii c,ii e,ii d,.slice A n m];have J:=ZB h;clear h;go_enter func263,ntmps263
 go_wp2_with (
  (refine(VJ _ _ _ _ _ _ _ _ _ _ _).mono ?_)
  rintro r a ⟨rfl,k⟩;have l:=u.kO k;obtain⟨L,M,N,y,O,P,Q,z⟩:=KB l;have f:=l.lt;clear u l)
 go_wp2_with (first
  | (refine(p _).mono ?_;clear p;rintro r w' ⟨rfl,rfl⟩)
  | (refine(q _).mono ?_;clear q;rintro r w' ⟨rfl,rfl⟩)
  | (refine(t _).mono ?_;clear t;rintro r w' ⟨rfl,rfl⟩))
 refine ZT (fun w'=>cl w' (aq w.heap.size 3) (ii b)/\cl w' (aq w.heap.size 7) (.slice A n m)) 6 [[0,1,2,3,4],[5]] ⟨((((Keep.refl [] a).alloc _).cell f sq _).trans y),((((Keep.refl [] a).alloc _).cell f sq _).trans z)⟩ ?_;simp only[PI];iterate 5 refine wG ?_
 refine JB rq fun K E=>?_;go_wp2_with fail;refine E _ _ (⟨((((Keep.refl [] a).alloc _).drew.cell f sq _).trans y),((((Keep.refl [] a).alloc _).drew.cell f sq _).trans z)⟩) ?_
 try simp only[Act.put,PU]
 refine VB ?_
 go_wp2_with (first
  | fail)
 go_ret;exact⟨rfl,by first | exact((((Keep.refl [] w).alloc _).tO k).alloc _).drew | exact(((Keep.refl [] w).alloc _).tO k).alloc _⟩
theorem ZBX (v s b c e d:Int) (m:Nat) (xs:List UInt8) (B:Rd w A n (bys xs)) (h:1<=v/\v<=2147483647) (i:¬ (1<=s/\s<=2147483647)) :
 cr 263 #[frv 1 v s b c e d (.slice A n m)] w (.bool (decide (FrMay 1 v s b c e d xs))):=by
 have o:decide (FrMay 1 v s b c e d xs)=false:=by
  have E:xs.length=n:=uq B.1
  rw[AV];rintro⟨F,g | g | g | g | g⟩ <;> omega
 rw[o];clear o;unfold frv;have p:=fun W=>QC (v) (1) (2147483647) true (AH h) W;have q:=fun W=>QC (s) (1) (2147483647) false (AU i) W;obtain⟨C,j⟩:∃ x,decide (0<=b/\b<=63)=x:=⟨_,rfl⟩;have t:=fun W=>QC (b) (0) (63) C j W;have G:=ZB j;clear j;have u:=Blk.new w 211 #[ii 1,ii v,ii s,ii b,ii c,ii e,ii d,.slice A n m];have H:=ZB h;clear h;have I:=ZB i;clear i;go_enter func263,ntmps263
 go_wp2_with (
  (refine(VJ _ _ _ _ _ _ _ _ _ _ _).mono ?_)
  rintro r a ⟨rfl,k⟩;have l:=u.kO k;obtain⟨J,L,M,y,N,O,P,z⟩:=KB l;have f:=l.lt;clear u l)
 go_wp2_with (first
  | (refine(p _).mono ?_;clear p;rintro r w' ⟨rfl,rfl⟩)
  | (refine(q _).mono ?_;clear q;rintro r w' ⟨rfl,rfl⟩)
  | (refine(t _).mono ?_;clear t;rintro r w' ⟨rfl,rfl⟩))
 refine ZT (fun w'=>cl w' (aq w.heap.size 3) (ii b)/\cl w' (aq w.heap.size 7) (.slice A n m)) 6 [[0,1,2,3,4],[5]] ⟨((((Keep.refl [] a).alloc _).cell f sq _).trans y),((((Keep.refl [] a).alloc _).cell f sq _).trans z)⟩ ?_;simp only[PI];iterate 5 refine wG ?_
 refine JB rq fun K D=>?_;go_wp2_with fail;refine D _ _ (⟨((((Keep.refl [] a).alloc _).drew.cell f sq _).trans y),((((Keep.refl [] a).alloc _).drew.cell f sq _).trans z)⟩) ?_
 try simp only[Act.put,PU]
 refine VB ?_
 go_wp2_with (first
  | fail)
 go_ret;exact⟨rfl,by first | exact((((Keep.refl [] w).alloc _).tO k).alloc _).drew | exact(((Keep.refl [] w).alloc _).tO k).alloc _⟩
theorem KBf (v s b c e d:Int) (m:Nat) (xs:List UInt8) (B:Rd w A n (bys xs)) (h:1<=v/\v<=2147483647) (i:1<=s/\s<=2147483647) (j:¬ (0<=b/\b<=63)) :
 cr 263 #[frv 1 v s b c e d (.slice A n m)] w (.bool (decide (FrMay 1 v s b c e d xs))):=by
 have o:decide (FrMay 1 v s b c e d xs)=false:=by
  have D:xs.length=n:=uq B.1
  rw[AV];rintro⟨E,g | g | g | g | g⟩ <;> omega
 rw[o];clear o;unfold frv;have p:=fun W=>QC (v) (1) (2147483647) true (AH h) W;have q:=fun W=>QC (s) (1) (2147483647) true (AH i) W;have t:=fun W=>QC (b) (0) (63) false (AU j) W;have u:=Blk.new w 211 #[ii 1,ii v,ii s,ii b,ii c,ii e,ii d,.slice A n m];have F:=ZB h;clear h;have G:=ZB i;clear i;have H:=ZB j;clear j;go_enter func263,ntmps263
 go_wp2_with (
  (refine(VJ _ _ _ _ _ _ _ _ _ _ _).mono ?_)
  rintro r a ⟨rfl,k⟩;have l:=u.kO k;obtain⟨I,J,L,y,M,N,O,z⟩:=KB l;have f:=l.lt;clear u l)
 go_wp2_with (first
  | (refine(p _).mono ?_;clear p;rintro r w' ⟨rfl,rfl⟩)
  | (refine(q _).mono ?_;clear q;rintro r w' ⟨rfl,rfl⟩)
  | (refine(t _).mono ?_;clear t;rintro r w' ⟨rfl,rfl⟩))
 refine ZT (fun w'=>cl w' (aq w.heap.size 3) (ii b)/\cl w' (aq w.heap.size 7) (.slice A n m)) 6 [[0,1,2,3,4],[5]] ⟨((((Keep.refl [] a).alloc _).cell f sq _).trans y),((((Keep.refl [] a).alloc _).cell f sq _).trans z)⟩ ?_;simp only[PI];iterate 5 refine wG ?_
 refine JB rq fun K C=>?_;go_wp2_with fail;refine C _ _ (⟨((((Keep.refl [] a).alloc _).drew.cell f sq _).trans y),((((Keep.refl [] a).alloc _).drew.cell f sq _).trans z)⟩) ?_
 try simp only[Act.put,PU]
 refine VB ?_
 go_wp2_with (first
  | fail)
 go_ret;exact⟨rfl,by first | exact((((Keep.refl [] w).alloc _).tO k).alloc _).drew | exact(((Keep.refl [] w).alloc _).tO k).alloc _⟩
theorem ZBg (v s b c e d:Int) (m:Nat) (xs:List UInt8) (B:Rd w A n (bys xs)) (h:1<=v/\v<=2147483647) (i:1<=s/\s<=2147483647) (j:0<=b/\b<=63) (C:¬ (n=64)) :
 cr 263 #[frv 1 v s b c e d (.slice A n m)] w (.bool (decide (FrMay 1 v s b c e d xs))):=by
 have o:decide (FrMay 1 v s b c e d xs)=false:=by
  have E:xs.length=n:=uq B.1
  rw[AV];rintro⟨F,g | g | g | g | g⟩ <;> omega
 rw[o];clear o;unfold frv;have p:=fun W=>QC (v) (1) (2147483647) true (AH h) W;have q:=fun W=>QC (s) (1) (2147483647) true (AH i) W;have t:=fun W=>QC (b) (0) (63) true (AH j) W;have u:=Blk.new w 211 #[ii 1,ii v,ii s,ii b,ii c,ii e,ii d,.slice A n m];have G:=ZB h;clear h;have H:=ZB i;clear i;have I:=ZB j;obtain⟨J,L⟩:=j;have M:(((n:Nat):Int) == 64)=false:=by simp;omega
 clear C;go_enter func263,ntmps263
 go_wp2_with (
  (refine(VJ _ _ _ _ _ _ _ _ _ _ _).mono ?_)
  rintro r a ⟨rfl,k⟩;have l:=u.kO k;obtain⟨N,O,P,y,Q,R,S,z⟩:=KB l;have f:=l.lt;clear u l)
 go_wp2_with (first
  | (refine(p _).mono ?_;clear p;rintro r w' ⟨rfl,rfl⟩)
  | (refine(q _).mono ?_;clear q;rintro r w' ⟨rfl,rfl⟩)
  | (refine(t _).mono ?_;clear t;rintro r w' ⟨rfl,rfl⟩))
 refine ZT (fun w'=>cl w' (aq w.heap.size 3) (ii b)/\cl w' (aq w.heap.size 7) (.slice A n m)) 6 [[0,1,2,3,4],[5]] ⟨((((Keep.refl [] a).alloc _).cell f sq _).trans y),((((Keep.refl [] a).alloc _).cell f sq _).trans z)⟩ ?_;simp only[PI];iterate 5 refine wG ?_
 refine JB rq fun K D=>?_;go_wp2_with fail;refine D _ _ (⟨((((Keep.refl [] a).alloc _).drew.cell f sq _).trans y),((((Keep.refl [] a).alloc _).drew.cell f sq _).trans z)⟩) ?_
 try simp only[Act.put,PU]
 refine VB ?_
 go_wp2_with (first
  | fail)
 go_ret;exact⟨rfl,by first | exact((((Keep.refl [] w).alloc _).tO k).alloc _).drew | exact(((Keep.refl [] w).alloc _).tO k).alloc _⟩
theorem KBb (v s b c e d:Int) (m:Nat) (xs:List UInt8) (h:Rd w A n (bys xs)) (i:1<=v/\v<=2147483647) (j:1<=s/\s<=2147483647) (k:0<=b/\b<=63) (D:n=64) :
 cr 263 #[frv 1 v s b c e d (.slice A n m)] w (.bool (decide (FrMay 1 v s b c e d xs))):=by
 unfold frv;have l:=fun W (p:kz w W)=>Xx 1 v s b c e d 1 v s b 0 0 0 m m xs xs (h.keep p) (h.keep p);unfold frv at l;have q:=fun W=>QC (v) (1) (2147483647) true (AH i) W;have t:=fun W=>QC (s) (1) (2147483647) true (AH j) W;have u:=fun W=>QC (b) (0) (63) true (AH k) W;have y:=Blk.new w 211 #[ii 1,ii v,ii s,ii b,ii c,ii e,ii d,.slice A n m];have E:=ZB i;clear i;have F:=ZB j;clear j;have G:=ZB k;obtain⟨J,L⟩:=k;subst D;go_enter func263,ntmps263
 go_wp2_with (
  (refine(VJ _ _ _ _ _ _ _ _ _ _ _).mono ?_)
  rintro r f ⟨rfl,a⟩;have o:=y.kO a;obtain⟨M,N,O,z,P,Q,R,B⟩:=KB o;have g:=o.lt;clear y o)
 go_wp2_with (first
  | (refine(q _).mono ?_;clear q;rintro r w' ⟨rfl,rfl⟩)
  | (refine(t _).mono ?_;clear t;rintro r w' ⟨rfl,rfl⟩)
  | (refine(u _).mono ?_;clear u;rintro r w' ⟨rfl,rfl⟩))
 refine ZT (fun w'=>cl w' (aq w.heap.size 3) (ii b)/\cl w' (aq w.heap.size 7) (.slice A 64 m)) 6 [[0,1,2,3,4],[5]] ⟨((((Keep.refl [] f).alloc _).cell g sq _).trans z),((((Keep.refl [] f).alloc _).cell g sq _).trans B)⟩ ?_;simp only[PI];iterate 5 refine wG ?_
 refine JB rq fun K H=>?_;go_wp2_with fail;refine H _ _ (⟨((((Keep.refl [] f).alloc _).drew.cell g sq _).trans z),((((Keep.refl [] f).alloc _).drew.cell g sq _).trans B)⟩) ?_
 try simp only[Act.put,PU]
 refine VB ?_
 go_wp2_with (first
  | fail)
 go_wp2_with (refine(l _ (by first | exact((((Keep.refl [] w).alloc _).tO a).alloc _).drew | exact(((Keep.refl [] w).alloc _).tO a).alloc _)).mono ?_;clear l;rintro r S ⟨rfl,C⟩);go_ret;have I:xs.length=64:=uq h.1
 refine⟨JF ?_,by first | exact((((Keep.refl [] w).alloc _).tO a).alloc _).drew.tO C | exact((((Keep.refl [] w).alloc _).tO a).alloc _).tO C⟩;rw[Bh];simp[FrMay,ZA E,ZA F,ZA G,I]
theorem XBZ (v s b c e d:Int) (m:Nat) (xs:List UInt8) (B:Rd w A n (bys xs)) (h:¬ (1<=v/\v<=2147483647)) :
 cr 263 #[frv 2 v s b c e d (.slice A n m)] w (.bool (decide (FrMay 2 v s b c e d xs))):=by
 have o:decide (FrMay 2 v s b c e d xs)=false:=by
  have F:xs.length=n:=uq B.1
  rw[AV];rintro⟨G,g | g | g | g | g⟩ <;> omega
 rw[o];clear o;unfold frv;have p:=fun W=>QC (v) (1) (2147483647) false (AU h) W;obtain⟨C,i⟩:∃ x,decide (1<=s/\s<=2147483647)=x:=⟨_,rfl⟩;have q:=fun W=>QC (s) (1) (2147483647) C i W;have H:=ZB i;clear i;obtain⟨D,j⟩:∃ x,decide (0<=b/\b<=63)=x:=⟨_,rfl⟩;have t:=fun W=>QC (b) (0) (63) D j W;have I:=ZB j;clear j;have u:=Blk.new w 211 #[ii 2,ii v,ii s,ii b,ii c,ii e,ii d,.slice A n m];have J:=ZB h;clear h;go_enter func263,ntmps263
 go_wp2_with (
  (refine(VJ _ _ _ _ _ _ _ _ _ _ _).mono ?_)
  rintro r a ⟨rfl,k⟩;have l:=u.kO k;obtain⟨L,M,N,y,z,O,P,Q⟩:=KB l;have f:=l.lt;clear u l)
 go_wp2_with (first
  | (refine(p _).mono ?_;clear p;rintro r w' ⟨rfl,rfl⟩)
  | (refine(q _).mono ?_;clear q;rintro r w' ⟨rfl,rfl⟩)
  | (refine(t _).mono ?_;clear t;rintro r w' ⟨rfl,rfl⟩))
 refine ZT (fun w'=>cl w' (aq w.heap.size 3) (ii b)/\cl w' (aq w.heap.size 4) (ii c)) 6 [[0,1,2,3,4],[5]] ⟨((((Keep.refl [] a).alloc _).cell f sq _).trans y),((((Keep.refl [] a).alloc _).cell f sq _).trans z)⟩ ?_;simp only[PI];iterate 5 refine wG ?_
 refine JB rq fun K E=>?_;go_wp2_with fail;refine E _ _ (⟨((((Keep.refl [] a).alloc _).drew.cell f sq _).trans y),((((Keep.refl [] a).alloc _).drew.cell f sq _).trans z)⟩) ?_
 try simp only[Act.put,PU]
 refine VB ?_
 go_wp2_with (first
  | fail)
 go_ret;exact⟨rfl,by first | exact((((Keep.refl [] w).alloc _).tO k).alloc _).drew | exact(((Keep.refl [] w).alloc _).tO k).alloc _⟩
theorem XBg (v s b c e d:Int) (m:Nat) (xs:List UInt8) (B:Rd w A n (bys xs)) (h:1<=v/\v<=2147483647) (i:¬ (1<=s/\s<=2147483647)) :
 cr 263 #[frv 2 v s b c e d (.slice A n m)] w (.bool (decide (FrMay 2 v s b c e d xs))):=by
 have o:decide (FrMay 2 v s b c e d xs)=false:=by
  have E:xs.length=n:=uq B.1
  rw[AV];rintro⟨F,g | g | g | g | g⟩ <;> omega
 rw[o];clear o;unfold frv;have p:=fun W=>QC (v) (1) (2147483647) true (AH h) W;have q:=fun W=>QC (s) (1) (2147483647) false (AU i) W;obtain⟨C,j⟩:∃ x,decide (0<=b/\b<=63)=x:=⟨_,rfl⟩;have t:=fun W=>QC (b) (0) (63) C j W;have G:=ZB j;clear j;have u:=Blk.new w 211 #[ii 2,ii v,ii s,ii b,ii c,ii e,ii d,.slice A n m];have H:=ZB h;clear h;have I:=ZB i;clear i;go_enter func263,ntmps263
 go_wp2_with (
  (refine(VJ _ _ _ _ _ _ _ _ _ _ _).mono ?_)
  rintro r a ⟨rfl,k⟩;have l:=u.kO k;obtain⟨J,L,M,y,z,N,O,P⟩:=KB l;have f:=l.lt;clear u l)
 go_wp2_with (first
  | (refine(p _).mono ?_;clear p;rintro r w' ⟨rfl,rfl⟩)
  | (refine(q _).mono ?_;clear q;rintro r w' ⟨rfl,rfl⟩)
  | (refine(t _).mono ?_;clear t;rintro r w' ⟨rfl,rfl⟩))
 refine ZT (fun w'=>cl w' (aq w.heap.size 3) (ii b)/\cl w' (aq w.heap.size 4) (ii c)) 6 [[0,1,2,3,4],[5]] ⟨((((Keep.refl [] a).alloc _).cell f sq _).trans y),((((Keep.refl [] a).alloc _).cell f sq _).trans z)⟩ ?_;simp only[PI];iterate 5 refine wG ?_
 refine JB rq fun K D=>?_;go_wp2_with fail;refine D _ _ (⟨((((Keep.refl [] a).alloc _).drew.cell f sq _).trans y),((((Keep.refl [] a).alloc _).drew.cell f sq _).trans z)⟩) ?_
 try simp only[Act.put,PU]
 refine VB ?_
 go_wp2_with (first
  | fail)
 go_ret;exact⟨rfl,by first | exact((((Keep.refl [] w).alloc _).tO k).alloc _).drew | exact(((Keep.refl [] w).alloc _).tO k).alloc _⟩
theorem ZBa (v s b c e d:Int) (m:Nat) (xs:List UInt8) (B:Rd w A n (bys xs)) (h:1<=v/\v<=2147483647) (i:1<=s/\s<=2147483647) (j:¬ (0<=b/\b<=63)) :
 cr 263 #[frv 2 v s b c e d (.slice A n m)] w (.bool (decide (FrMay 2 v s b c e d xs))):=by
 have o:decide (FrMay 2 v s b c e d xs)=false:=by
  have D:xs.length=n:=uq B.1
  rw[AV];rintro⟨E,g | g | g | g | g⟩ <;> omega
 rw[o];clear o;unfold frv;have p:=fun W=>QC (v) (1) (2147483647) true (AH h) W;have q:=fun W=>QC (s) (1) (2147483647) true (AH i) W;have t:=fun W=>QC (b) (0) (63) false (AU j) W;have u:=Blk.new w 211 #[ii 2,ii v,ii s,ii b,ii c,ii e,ii d,.slice A n m];have F:=ZB h;clear h;have G:=ZB i;clear i;have H:=ZB j;clear j;go_enter func263,ntmps263
 go_wp2_with (
  (refine(VJ _ _ _ _ _ _ _ _ _ _ _).mono ?_)
  rintro r a ⟨rfl,k⟩;have l:=u.kO k;obtain⟨I,J,L,y,z,M,N,O⟩:=KB l;have f:=l.lt;clear u l)
 go_wp2_with (first
  | (refine(p _).mono ?_;clear p;rintro r w' ⟨rfl,rfl⟩)
  | (refine(q _).mono ?_;clear q;rintro r w' ⟨rfl,rfl⟩)
  | (refine(t _).mono ?_;clear t;rintro r w' ⟨rfl,rfl⟩))
 refine ZT (fun w'=>cl w' (aq w.heap.size 3) (ii b)/\cl w' (aq w.heap.size 4) (ii c)) 6 [[0,1,2,3,4],[5]] ⟨((((Keep.refl [] a).alloc _).cell f sq _).trans y),((((Keep.refl [] a).alloc _).cell f sq _).trans z)⟩ ?_;simp only[PI];iterate 5 refine wG ?_
 refine JB rq fun K C=>?_;go_wp2_with fail;refine C _ _ (⟨((((Keep.refl [] a).alloc _).drew.cell f sq _).trans y),((((Keep.refl [] a).alloc _).drew.cell f sq _).trans z)⟩) ?_
 try simp only[Act.put,PU]
 refine VB ?_
 go_wp2_with (first
  | fail)
 go_ret;exact⟨rfl,by first | exact((((Keep.refl [] w).alloc _).tO k).alloc _).drew | exact(((Keep.refl [] w).alloc _).tO k).alloc _⟩
theorem KBV (v s b c e d:Int) (m:Nat) (xs:List UInt8) (D:Rd w A n (bys xs)) (i:1<=v/\v<=2147483647) (j:1<=s/\s<=2147483647) (k:0<=b/\b<=63) (l:¬ (1<=c/\c<=64-b)) :
 cr 263 #[frv 2 v s b c e d (.slice A n m)] w (.bool (decide (FrMay 2 v s b c e d xs))):=by
 have q:decide (FrMay 2 v s b c e d xs)=false:=by
  have F:xs.length=n:=uq D.1
  rw[AV];rintro⟨G,g | g | g | g | g⟩ <;> omega
 rw[q];clear q;unfold frv;have t:=fun W=>QC (v) (1) (2147483647) true (AH i) W;have u:=fun W=>QC (s) (1) (2147483647) true (AH j) W;have y:=fun W=>QC (b) (0) (63) true (AH k) W;have a:=fun W=>QC (c) (1) (64-b) false (AU l) W;have z:=Blk.new w 211 #[ii 2,ii v,ii s,ii b,ii c,ii e,ii d,.slice A n m];have H:=ZB i;clear i;have I:=ZB j;clear j;have J:=ZB k;obtain⟨L,M⟩:=k;have N:=ZB l;clear l;go_enter func263,ntmps263
 go_wp2_with (
  (refine(VJ _ _ _ _ _ _ _ _ _ _ _).mono ?_)
  rintro r f ⟨rfl,o⟩;have p:=z.kO o;obtain⟨O,P,Q,B,C,R,S,T⟩:=KB p;have h:=p.lt;clear z p)
 go_wp2_with (first
  | (refine(t _).mono ?_;clear t;rintro r w' ⟨rfl,rfl⟩)
  | (refine(u _).mono ?_;clear u;rintro r w' ⟨rfl,rfl⟩)
  | (refine(y _).mono ?_;clear y;rintro r w' ⟨rfl,rfl⟩)
  | (refine(a _).mono ?_;clear a;rintro r w' ⟨rfl,rfl⟩))
 refine ZT (fun w'=>cl w' (aq w.heap.size 3) (ii b)/\cl w' (aq w.heap.size 4) (ii c)) 6 [[0,1,2,3,4],[5]] ⟨((((Keep.refl [] f).alloc _).cell h sq _).trans B),((((Keep.refl [] f).alloc _).cell h sq _).trans C)⟩ ?_;simp only[PI];iterate 5 refine wG ?_
 refine JB rq fun K E=>?_;go_wp2_with fail;refine E _ _ (⟨((((Keep.refl [] f).alloc _).drew.cell h sq _).trans B),((((Keep.refl [] f).alloc _).drew.cell h sq _).trans C)⟩) ?_
 try simp only[Act.put,PU]
 refine VB ?_
 go_wp2_with (first
  | (refine(a _).mono ?_;clear a;rintro r w' ⟨rfl,rfl⟩)
  | fail)
 go_ret;exact⟨rfl,by first | exact((((Keep.refl [] w).alloc _).tO o).alloc _).drew | exact(((Keep.refl [] w).alloc _).tO o).alloc _⟩
theorem VBX (v s b c e d:Int) (m:Nat) (xs:List UInt8) (q:Rd w A n (bys xs)) (i:1<=v/\v<=2147483647) (j:1<=s/\s<=2147483647) (k:0<=b/\b<=63) (l:1<=c/\c<=64-b) :
 cr 263 #[frv 2 v s b c e d (.slice A n m)] w (.bool (decide (FrMay 2 v s b c e d xs))):=by
 unfold frv;have o:=fun W (E:kz w W)=>Xx 2 v s b c e d 2 v s b c 0 0 (A':=none) m (n':=0) 0 xs [] (q.keep E) (Rd.nil _ _);unfold frv at o;have t:=fun W=>QC (v) (1) (2147483647) true (AH i) W;have u:=fun W=>QC (s) (1) (2147483647) true (AH j) W;have y:=fun W=>QC (b) (0) (63) true (AH k) W;have f:=fun W=>QC (c) (1) (64-b) true (AH l) W;have z:=Blk.new w 211 #[ii 2,ii v,ii s,ii b,ii c,ii e,ii d,.slice A n m];have F:=ZB i;clear i;have G:=ZB j;clear j;have H:=ZB k;obtain⟨L,M⟩:=k;have I:=ZB l;clear l;go_enter func263,ntmps263
 go_wp2_with (
  (refine(VJ _ _ _ _ _ _ _ _ _ _ _).mono ?_)
  rintro r g ⟨rfl,a⟩;have p:=z.kO a;obtain⟨N,O,P,B,C,Q,R,S⟩:=KB p;have h:=p.lt;clear z p)
 go_wp2_with (first
  | (refine(t _).mono ?_;clear t;rintro r w' ⟨rfl,rfl⟩)
  | (refine(u _).mono ?_;clear u;rintro r w' ⟨rfl,rfl⟩)
  | (refine(y _).mono ?_;clear y;rintro r w' ⟨rfl,rfl⟩)
  | (refine(f _).mono ?_;clear f;rintro r w' ⟨rfl,rfl⟩))
 refine ZT (fun w'=>cl w' (aq w.heap.size 3) (ii b)/\cl w' (aq w.heap.size 4) (ii c)) 6 [[0,1,2,3,4],[5]] ⟨((((Keep.refl [] g).alloc _).cell h sq _).trans B),((((Keep.refl [] g).alloc _).cell h sq _).trans C)⟩ ?_;simp only[PI];iterate 5 refine wG ?_
 refine JB rq fun K J=>?_;go_wp2_with fail;refine J _ _ (⟨((((Keep.refl [] g).alloc _).drew.cell h sq _).trans B),((((Keep.refl [] g).alloc _).drew.cell h sq _).trans C)⟩) ?_
 try simp only[Act.put,PU]
 refine VB ?_
 go_wp2_with (first
  | (refine(f _).mono ?_;clear f;rintro r w' ⟨rfl,rfl⟩)
  | fail)
 go_wp2_with (refine(o _ (by first | exact((((Keep.refl [] w).alloc _).tO a).alloc _).drew | exact(((Keep.refl [] w).alloc _).tO a).alloc _)).mono ?_;clear o;rintro r T ⟨rfl,D⟩);go_ret;have U:xs.length=n:=uq q.1
 refine⟨JF ?_,by first | exact((((Keep.refl [] w).alloc _).tO a).alloc _).drew.tO D | exact((((Keep.refl [] w).alloc _).tO a).alloc _).tO D⟩;rw[Bh];simp[FrMay,ZA F,ZA G,ZA H,ZA I]
theorem JBd (v s b c e d:Int) (m:Nat) (xs:List UInt8) (t:Rd w A n (bys xs)) (a:¬ (1<=v/\v<=2147483647)) :
 cr 263 #[frv 3 v s b c e d (.slice A n m)] w (.bool (decide (FrMay 3 v s b c e d xs))):=by
 have k:decide (FrMay 3 v s b c e d xs)=false:=by
  have z:xs.length=n:=uq t.1
  rw[AV];rintro⟨B,g | g | g | g | g⟩ <;> omega
 rw[k];clear k;unfold frv;have l:=fun W=>QC (v) (1) (2147483647) false (AU a) W;obtain⟨u,f⟩:∃ x,decide (1<=s/\s<=2147483647)=x:=⟨_,rfl⟩;have o:=fun W=>QC (s) (1) (2147483647) u f W;have C:=ZB f;clear f;obtain⟨y,h⟩:∃ x,decide (0<=b/\b<=63)=x:=⟨_,rfl⟩;have p:=fun W=>QC (b) (0) (63) y h W;have D:=ZB h;clear h;have q:=Blk.new w 211 #[ii 3,ii v,ii s,ii b,ii c,ii e,ii d,.slice A n m];have E:=ZB a;clear a;go_enter func263,ntmps263
 go_wp2_with (
  (refine(VJ _ _ _ _ _ _ _ _ _ _ _).mono ?_)
  rintro r F ⟨rfl,i⟩;have j:=q.kO i;obtain⟨G,H,I,J,K,L,M,N⟩:=KB j;have O:=j.lt;clear q j)
 go_wp2_with (first
  | (refine(l _).mono ?_;clear l;rintro r w' ⟨rfl,rfl⟩)
  | (refine(o _).mono ?_;clear o;rintro r w' ⟨rfl,rfl⟩)
  | (refine(p _).mono ?_;clear p;rintro r w' ⟨rfl,rfl⟩))
 go_ret;exact⟨rfl,by first | exact((((Keep.refl [] w).alloc _).tO i).alloc _).drew | exact(((Keep.refl [] w).alloc _).tO i).alloc _⟩
theorem XBW (v s b c e d:Int) (m:Nat) (xs:List UInt8) (t:Rd w A n (bys xs)) (a:1<=v/\v<=2147483647) (f:¬ (1<=s/\s<=2147483647)) :
 cr 263 #[frv 3 v s b c e d (.slice A n m)] w (.bool (decide (FrMay 3 v s b c e d xs))):=by
 have k:decide (FrMay 3 v s b c e d xs)=false:=by
  have y:xs.length=n:=uq t.1
  rw[AV];rintro⟨z,g | g | g | g | g⟩ <;> omega
 rw[k];clear k;unfold frv;have l:=fun W=>QC (v) (1) (2147483647) true (AH a) W;have o:=fun W=>QC (s) (1) (2147483647) false (AU f) W;obtain⟨u,h⟩:∃ x,decide (0<=b/\b<=63)=x:=⟨_,rfl⟩;have p:=fun W=>QC (b) (0) (63) u h W;have B:=ZB h;clear h;have q:=Blk.new w 211 #[ii 3,ii v,ii s,ii b,ii c,ii e,ii d,.slice A n m];have C:=ZB a;clear a;have D:=ZB f;clear f;go_enter func263,ntmps263
 go_wp2_with (
  (refine(VJ _ _ _ _ _ _ _ _ _ _ _).mono ?_)
  rintro r E ⟨rfl,i⟩;have j:=q.kO i;obtain⟨F,G,H,I,J,K,L,M⟩:=KB j;have N:=j.lt;clear q j)
 go_wp2_with (first
  | (refine(l _).mono ?_;clear l;rintro r w' ⟨rfl,rfl⟩)
  | (refine(o _).mono ?_;clear o;rintro r w' ⟨rfl,rfl⟩)
  | (refine(p _).mono ?_;clear p;rintro r w' ⟨rfl,rfl⟩))
 go_ret;exact⟨rfl,by first | exact((((Keep.refl [] w).alloc _).tO i).alloc _).drew | exact(((Keep.refl [] w).alloc _).tO i).alloc _⟩
theorem VBd (v s b c e d:Int) (m:Nat) (xs:List UInt8) (y:Rd w A n (bys xs)) (a:1<=v/\v<=2147483647) (f:1<=s/\s<=2147483647) (h:¬ (1<=e/\e<=2147483647)) :
 cr 263 #[frv 3 v s b c e d (.slice A n m)] w (.bool (decide (FrMay 3 v s b c e d xs))):=by
 have l:decide (FrMay 3 v s b c e d xs)=false:=by
  have B:xs.length=n:=uq y.1
  rw[AV];rintro⟨C,g | g | g | g | g⟩ <;> omega
 rw[l];clear l;unfold frv;have o:=fun W=>QC (v) (1) (2147483647) true (AH a) W;have p:=fun W=>QC (s) (1) (2147483647) true (AH f) W;obtain⟨z,i⟩:∃ x,decide (0<=b/\b<=63)=x:=⟨_,rfl⟩;have q:=fun W=>QC (b) (0) (63) z i W;have D:=ZB i;clear i;have t:=fun W=>QC (e) (1) (2147483647) false (AU h) W;have u:=Blk.new w 211 #[ii 3,ii v,ii s,ii b,ii c,ii e,ii d,.slice A n m];have E:=ZB a;clear a;have F:=ZB f;clear f;have G:=ZB h;clear h;go_enter func263,ntmps263
 go_wp2_with (
  (refine(VJ _ _ _ _ _ _ _ _ _ _ _).mono ?_)
  rintro r H ⟨rfl,j⟩;have k:=u.kO j;obtain⟨I,J,K,L,M,N,O,P⟩:=KB k;have Q:=k.lt;clear u k)
 go_wp2_with (first
  | (refine(o _).mono ?_;clear o;rintro r w' ⟨rfl,rfl⟩)
  | (refine(p _).mono ?_;clear p;rintro r w' ⟨rfl,rfl⟩)
  | (refine(q _).mono ?_;clear q;rintro r w' ⟨rfl,rfl⟩)
  | (refine(t _).mono ?_;clear t;rintro r w' ⟨rfl,rfl⟩))
 go_ret;exact⟨rfl,by first | exact((((Keep.refl [] w).alloc _).tO j).alloc _).drew | exact(((Keep.refl [] w).alloc _).tO j).alloc _⟩
theorem VBc (v s b c e d:Int) (m:Nat) (xs:List UInt8) (l:Rd w A n (bys xs)) (f:1<=v/\v<=2147483647) (g:1<=s/\s<=2147483647) (h:1<=e/\e<=2147483647) :
 cr 263 #[frv 3 v s b c e d (.slice A n m)] w (.bool (decide (FrMay 3 v s b c e d xs))):=by
 unfold frv;have i:=fun W (z:kz w W)=>Xx 3 v s b c e d 3 v s 0 0 e 0 (A':=none) m (n':=0) 0 xs [] (l.keep z) (Rd.nil _ _);unfold frv at i;have o:=fun W=>QC (v) (1) (2147483647) true (AH f) W;have p:=fun W=>QC (s) (1) (2147483647) true (AH g) W;obtain⟨B,j⟩:∃ x,decide (0<=b/\b<=63)=x:=⟨_,rfl⟩;have q:=fun W=>QC (b) (0) (63) B j W;have F:=ZB j;clear j;have t:=fun W=>QC (e) (1) (2147483647) true (AH h) W;have u:=Blk.new w 211 #[ii 3,ii v,ii s,ii b,ii c,ii e,ii d,.slice A n m];have C:=ZB f;clear f;have D:=ZB g;clear g;have E:=ZB h;clear h;go_enter func263,ntmps263
 go_wp2_with (
  (refine(VJ _ _ _ _ _ _ _ _ _ _ _).mono ?_)
  rintro r G ⟨rfl,a⟩;have k:=u.kO a;obtain⟨H,I,J,K,L,M,N,O⟩:=KB k;have P:=k.lt;clear u k)
 go_wp2_with (first
  | (refine(o _).mono ?_;clear o;rintro r w' ⟨rfl,rfl⟩)
  | (refine(p _).mono ?_;clear p;rintro r w' ⟨rfl,rfl⟩)
  | (refine(q _).mono ?_;clear q;rintro r w' ⟨rfl,rfl⟩)
  | (refine(t _).mono ?_;clear t;rintro r w' ⟨rfl,rfl⟩))
 go_wp2_with (refine(i _ (by first | exact((((Keep.refl [] w).alloc _).tO a).alloc _).drew | exact(((Keep.refl [] w).alloc _).tO a).alloc _)).mono ?_;clear i;rintro r Q ⟨rfl,y⟩);go_ret;have R:xs.length=n:=uq l.1
 refine⟨JF ?_,by first | exact((((Keep.refl [] w).alloc _).tO a).alloc _).drew.tO y | exact((((Keep.refl [] w).alloc _).tO a).alloc _).tO y⟩;rw[Bh];simp[FrMay,ZA C,ZA D,ZA E]
theorem KBd (v s b c e d:Int) (m:Nat) (xs:List UInt8) (B:Rd w A n (bys xs)) (h:¬ (1<=v/\v<=2147483647)) :
 cr 263 #[frv 8 v s b c e d (.slice A n m)] w (.bool (decide (FrMay 8 v s b c e d xs))):=by
 have o:decide (FrMay 8 v s b c e d xs)=false:=by
  have F:xs.length=n:=uq B.1
  rw[AV];rintro⟨G,g | g | g | g | g⟩ <;> omega
 rw[o];clear o;unfold frv;have p:=fun W=>QC (v) (1) (2147483647) false (AU h) W;obtain⟨C,i⟩:∃ x,decide (1<=s/\s<=2147483647)=x:=⟨_,rfl⟩;have q:=fun W=>QC (s) (1) (2147483647) C i W;have H:=ZB i;clear i;obtain⟨D,j⟩:∃ x,decide (0<=b/\b<=63)=x:=⟨_,rfl⟩;have t:=fun W=>QC (b) (0) (63) D j W;have I:=ZB j;clear j;have u:=Blk.new w 211 #[ii 8,ii v,ii s,ii b,ii c,ii e,ii d,.slice A n m];have J:=ZB h;clear h;go_enter func263,ntmps263
 go_wp2_with (
  (refine(VJ _ _ _ _ _ _ _ _ _ _ _).mono ?_)
  rintro r a ⟨rfl,k⟩;have l:=u.kO k;obtain⟨L,M,N,O,P,y,z,Q⟩:=KB l;have f:=l.lt;clear u l)
 go_wp2_with (first
  | (refine(p _).mono ?_;clear p;rintro r w' ⟨rfl,rfl⟩)
  | (refine(q _).mono ?_;clear q;rintro r w' ⟨rfl,rfl⟩)
  | (refine(t _).mono ?_;clear t;rintro r w' ⟨rfl,rfl⟩))
 refine ZT (fun w'=>cl w' (aq w.heap.size 5) (ii e)/\cl w' (aq w.heap.size 6) (ii d)) 6 [[0,1,2,3,4],[5]] ⟨((((Keep.refl [] a).alloc _).cell f sq _).trans y),((((Keep.refl [] a).alloc _).cell f sq _).trans z)⟩ ?_;simp only[PI];iterate 5 refine wG ?_
 refine JB rq fun K E=>?_;go_wp2_with fail;refine E _ _ (⟨((((Keep.refl [] a).alloc _).drew.cell f sq _).trans y),((((Keep.refl [] a).alloc _).drew.cell f sq _).trans z)⟩) ?_
 try simp only[Act.put,PU]
 refine VB ?_
 go_wp2_with (first
  | fail)
 go_ret;exact⟨rfl,by first | exact((((Keep.refl [] w).alloc _).tO k).alloc _).drew | exact(((Keep.refl [] w).alloc _).tO k).alloc _⟩
theorem KBY (v s b c e d:Int) (m:Nat) (xs:List UInt8) (D:Rd w A n (bys xs)) (i:1<=v/\v<=2147483647) (j:¬ (0<=s/\s<=2147483647)) :
 cr 263 #[frv 8 v s b c e d (.slice A n m)] w (.bool (decide (FrMay 8 v s b c e d xs))):=by
 have q:decide (FrMay 8 v s b c e d xs)=false:=by
  have H:xs.length=n:=uq D.1
  rw[AV];rintro⟨I,g | g | g | g | g⟩ <;> omega
 rw[q];clear q;unfold frv;have t:=fun W=>QC (v) (1) (2147483647) true (AH i) W;obtain⟨E,k⟩:∃ x,decide (1<=s/\s<=2147483647)=x:=⟨_,rfl⟩;have u:=fun W=>QC (s) (1) (2147483647) E k W;have J:=ZB k;clear k;obtain⟨F,l⟩:∃ x,decide (0<=b/\b<=63)=x:=⟨_,rfl⟩;have y:=fun W=>QC (b) (0) (63) F l W;have L:=ZB l;clear l;have a:=fun W=>QC (s) (0) (2147483647) false (AU j) W;have z:=Blk.new w 211 #[ii 8,ii v,ii s,ii b,ii c,ii e,ii d,.slice A n m];have M:=ZB i;clear i;have N:=ZB j;clear j;go_enter func263,ntmps263
 go_wp2_with (
  (refine(VJ _ _ _ _ _ _ _ _ _ _ _).mono ?_)
  rintro r f ⟨rfl,o⟩;have p:=z.kO o;obtain⟨O,P,Q,R,S,B,C,T⟩:=KB p;have h:=p.lt;clear z p)
 go_wp2_with (first
  | (refine(t _).mono ?_;clear t;rintro r w' ⟨rfl,rfl⟩)
  | (refine(u _).mono ?_;clear u;rintro r w' ⟨rfl,rfl⟩)
  | (refine(y _).mono ?_;clear y;rintro r w' ⟨rfl,rfl⟩)
  | (refine(a _).mono ?_;clear a;rintro r w' ⟨rfl,rfl⟩))
 refine ZT (fun w'=>cl w' (aq w.heap.size 5) (ii e)/\cl w' (aq w.heap.size 6) (ii d)) 6 [[0,1,2,3,4],[5]] ⟨((((Keep.refl [] f).alloc _).cell h sq _).trans B),((((Keep.refl [] f).alloc _).cell h sq _).trans C)⟩ ?_;simp only[PI];iterate 5 refine wG ?_
 refine JB rq fun K G=>?_;go_wp2_with fail;refine G _ _ (⟨((((Keep.refl [] f).alloc _).drew.cell h sq _).trans B),((((Keep.refl [] f).alloc _).drew.cell h sq _).trans C)⟩) ?_
 try simp only[Act.put,PU]
 refine VB ?_
 go_wp2_with (first
  | (refine(a _).mono ?_;clear a;rintro r w' ⟨rfl,rfl⟩)
  | fail)
 go_ret;exact⟨rfl,by first | exact((((Keep.refl [] w).alloc _).tO o).alloc _).drew | exact(((Keep.refl [] w).alloc _).tO o).alloc _⟩
theorem YBb (v s b c e d:Int) (m:Nat) (xs:List UInt8) (F:Rd w A n (bys xs)) (j:1<=v/\v<=2147483647) (k:0<=s/\s<=2147483647) (l:¬ (0<=e/\e<=2147483647)) :
 cr 263 #[frv 8 v s b c e d (.slice A n m)] w (.bool (decide (FrMay 8 v s b c e d xs))):=by
 have u:decide (FrMay 8 v s b c e d xs)=false:=by
  have J:xs.length=n:=uq F.1
  rw[AV];rintro⟨L,g | g | g | g | g⟩ <;> omega
 rw[u];clear u;unfold frv;have y:=fun W=>QC (v) (1) (2147483647) true (AH j) W;obtain⟨G,o⟩:∃ x,decide (1<=s/\s<=2147483647)=x:=⟨_,rfl⟩;have z:=fun W=>QC (s) (1) (2147483647) G o W;have M:=ZB o;clear o;obtain⟨H,p⟩:∃ x,decide (0<=b/\b<=63)=x:=⟨_,rfl⟩;have B:=fun W=>QC (b) (0) (63) H p W;have N:=ZB p;clear p;have a:=fun W=>QC (s) (0) (2147483647) true (AH k) W;have f:=fun W=>QC (e) (0) (2147483647) false (AU l) W;have C:=Blk.new w 211 #[ii 8,ii v,ii s,ii b,ii c,ii e,ii d,.slice A n m];have O:=ZB j;clear j;have P:=ZB k;clear k;have Q:=ZB l;clear l;go_enter func263,ntmps263
 go_wp2_with (
  (refine(VJ _ _ _ _ _ _ _ _ _ _ _).mono ?_)
  rintro r h ⟨rfl,q⟩;have t:=C.kO q;obtain⟨R,S,T,U,V,D,E,X⟩:=KB t;have i:=t.lt;clear C t)
 go_wp2_with (first
  | (refine(y _).mono ?_;clear y;rintro r w' ⟨rfl,rfl⟩)
  | (refine(z _).mono ?_;clear z;rintro r w' ⟨rfl,rfl⟩)
  | (refine(B _).mono ?_;clear B;rintro r w' ⟨rfl,rfl⟩)
  | (refine(a _).mono ?_;clear a;rintro r w' ⟨rfl,rfl⟩)
  | (refine(f _).mono ?_;clear f;rintro r w' ⟨rfl,rfl⟩))
 refine ZT (fun w'=>cl w' (aq w.heap.size 5) (ii e)/\cl w' (aq w.heap.size 6) (ii d)) 6 [[0,1,2,3,4],[5]] ⟨((((Keep.refl [] h).alloc _).cell i sq _).trans D),((((Keep.refl [] h).alloc _).cell i sq _).trans E)⟩ ?_;simp only[PI];iterate 5 refine wG ?_
 refine JB rq fun K I=>?_;go_wp2_with fail;refine I _ _ (⟨((((Keep.refl [] h).alloc _).drew.cell i sq _).trans D),((((Keep.refl [] h).alloc _).drew.cell i sq _).trans E)⟩) ?_
 try simp only[Act.put,PU]
 refine VB ?_
 go_wp2_with (first
  | (refine(a _).mono ?_;clear a;rintro r w' ⟨rfl,rfl⟩)
  | (refine(f _).mono ?_;clear f;rintro r w' ⟨rfl,rfl⟩)
  | fail)
 go_ret;exact⟨rfl,by first | exact((((Keep.refl [] w).alloc _).tO q).alloc _).drew | exact(((Keep.refl [] w).alloc _).tO q).alloc _⟩
theorem VBb (v s b c e d:Int) (m:Nat) (xs:List UInt8) (H:Rd w A n (bys xs)) (k:1<=v/\v<=2147483647) (l:0<=s/\s<=2147483647) (o:0<=e/\e<=2147483647) (p:¬ (0<=d/\d<=s)) :
 cr 263 #[frv 8 v s b c e d (.slice A n m)] w (.bool (decide (FrMay 8 v s b c e d xs))):=by
 have z:decide (FrMay 8 v s b c e d xs)=false:=by
  have M:xs.length=n:=uq H.1
  rw[AV];rintro⟨N,g | g | g | g | g⟩ <;> omega
 rw[z];clear z;unfold frv;have B:=fun W=>QC (v) (1) (2147483647) true (AH k) W;obtain⟨I,q⟩:∃ x,decide (1<=s/\s<=2147483647)=x:=⟨_,rfl⟩;have C:=fun W=>QC (s) (1) (2147483647) I q W;have O:=ZB q;clear q;obtain⟨J,t⟩:∃ x,decide (0<=b/\b<=63)=x:=⟨_,rfl⟩;have D:=fun W=>QC (b) (0) (63) J t W;have P:=ZB t;clear t;have a:=fun W=>QC (s) (0) (2147483647) true (AH l) W;have f:=fun W=>QC (e) (0) (2147483647) true (AH o) W;have h:=fun W=>QC (d) (0) (s) false (AU p) W;have E:=Blk.new w 211 #[ii 8,ii v,ii s,ii b,ii c,ii e,ii d,.slice A n m];have Q:=ZB k;clear k;have R:=ZB l;clear l;have S:=ZB o;clear o;have T:=ZB p;clear p;go_enter func263,ntmps263
 go_wp2_with (
  (refine(VJ _ _ _ _ _ _ _ _ _ _ _).mono ?_)
  rintro r i ⟨rfl,u⟩;have y:=E.kO u;obtain⟨U,V,X,Y,c4,F,G,c7⟩:=KB y;have j:=y.lt;clear E y)
 go_wp2_with (first
  | (refine(B _).mono ?_;clear B;rintro r w' ⟨rfl,rfl⟩)
  | (refine(C _).mono ?_;clear C;rintro r w' ⟨rfl,rfl⟩)
  | (refine(D _).mono ?_;clear D;rintro r w' ⟨rfl,rfl⟩)
  | (refine(a _).mono ?_;clear a;rintro r w' ⟨rfl,rfl⟩)
  | (refine(f _).mono ?_;clear f;rintro r w' ⟨rfl,rfl⟩)
  | (refine(h _).mono ?_;clear h;rintro r w' ⟨rfl,rfl⟩))
 refine ZT (fun w'=>cl w' (aq w.heap.size 5) (ii e)/\cl w' (aq w.heap.size 6) (ii d)) 6 [[0,1,2,3,4],[5]] ⟨((((Keep.refl [] i).alloc _).cell j sq _).trans F),((((Keep.refl [] i).alloc _).cell j sq _).trans G)⟩ ?_;simp only[PI];iterate 5 refine wG ?_
 refine JB rq fun K L=>?_;go_wp2_with fail;refine L _ _ (⟨((((Keep.refl [] i).alloc _).drew.cell j sq _).trans F),((((Keep.refl [] i).alloc _).drew.cell j sq _).trans G)⟩) ?_
 try simp only[Act.put,PU]
 refine VB ?_
 go_wp2_with (first
  | (refine(a _).mono ?_;clear a;rintro r w' ⟨rfl,rfl⟩)
  | (refine(f _).mono ?_;clear f;rintro r w' ⟨rfl,rfl⟩)
  | (refine(h _).mono ?_;clear h;rintro r w' ⟨rfl,rfl⟩)
  | fail)
 go_ret;exact⟨rfl,by first | exact((((Keep.refl [] w).alloc _).tO u).alloc _).drew | exact(((Keep.refl [] w).alloc _).tO u).alloc _⟩
theorem QBa (v s b c e d:Int) (m:Nat) (xs:List UInt8) (z:Rd w A n (bys xs)) (k:1<=v/\v<=2147483647) (l:0<=s/\s<=2147483647) (o:0<=e/\e<=2147483647) (p:0<=d/\d<=s) :
 cr 263 #[frv 8 v s b c e d (.slice A n m)] w (.bool (decide (FrMay 8 v s b c e d xs))):=by
 unfold frv;have q:=fun W (I:kz w W)=>Xx 8 v s b c e d 8 v s 0 0 e d (A':=none) m (n':=0) 0 xs [] (z.keep I) (Rd.nil _ _);unfold frv at q;have B:=fun W=>QC (v) (1) (2147483647) true (AH k) W;obtain⟨J,t⟩:∃ x,decide (1<=s/\s<=2147483647)=x:=⟨_,rfl⟩;have C:=fun W=>QC (s) (1) (2147483647) J t W;have R:=ZB t;clear t;obtain⟨L,u⟩:∃ x,decide (0<=b/\b<=63)=x:=⟨_,rfl⟩;have D:=fun W=>QC (b) (0) (63) L u W;have S:=ZB u;clear u;have f:=fun W=>QC (s) (0) (2147483647) true (AH l) W;have g:=fun W=>QC (e) (0) (2147483647) true (AH o) W;have h:=fun W=>QC (d) (0) (s) true (AH p) W;have E:=Blk.new w 211 #[ii 8,ii v,ii s,ii b,ii c,ii e,ii d,.slice A n m];have M:=ZB k;clear k;have N:=ZB l;clear l;have O:=ZB o;clear o;have P:=ZB p;clear p;go_enter func263,ntmps263
 go_wp2_with (
  (refine(VJ _ _ _ _ _ _ _ _ _ _ _).mono ?_)
  rintro r i ⟨rfl,a⟩;have y:=E.kO a;obtain⟨T,U,V,X,Y,F,G,c7⟩:=KB y;have j:=y.lt;clear E y)
 go_wp2_with (first
  | (refine(B _).mono ?_;clear B;rintro r w' ⟨rfl,rfl⟩)
  | (refine(C _).mono ?_;clear C;rintro r w' ⟨rfl,rfl⟩)
  | (refine(D _).mono ?_;clear D;rintro r w' ⟨rfl,rfl⟩)
  | (refine(f _).mono ?_;clear f;rintro r w' ⟨rfl,rfl⟩)
  | (refine(g _).mono ?_;clear g;rintro r w' ⟨rfl,rfl⟩)
  | (refine(h _).mono ?_;clear h;rintro r w' ⟨rfl,rfl⟩))
 refine ZT (fun w'=>cl w' (aq w.heap.size 5) (ii e)/\cl w' (aq w.heap.size 6) (ii d)) 6 [[0,1,2,3,4],[5]] ⟨((((Keep.refl [] i).alloc _).cell j sq _).trans F),((((Keep.refl [] i).alloc _).cell j sq _).trans G)⟩ ?_;simp only[PI];iterate 5 refine wG ?_
 refine JB rq fun K Q=>?_;go_wp2_with fail;refine Q _ _ (⟨((((Keep.refl [] i).alloc _).drew.cell j sq _).trans F),((((Keep.refl [] i).alloc _).drew.cell j sq _).trans G)⟩) ?_
 try simp only[Act.put,PU]
 refine VB ?_
 go_wp2_with (first
  | (refine(f _).mono ?_;clear f;rintro r w' ⟨rfl,rfl⟩)
  | (refine(g _).mono ?_;clear g;rintro r w' ⟨rfl,rfl⟩)
  | (refine(h _).mono ?_;clear h;rintro r w' ⟨rfl,rfl⟩)
  | fail)
 go_wp2_with (refine(q _ (by first | exact((((Keep.refl [] w).alloc _).tO a).alloc _).drew | exact(((Keep.refl [] w).alloc _).tO a).alloc _)).mono ?_;clear q;rintro r w3 ⟨rfl,H⟩);go_ret;have hl:xs.length=n:=uq z.1
 refine⟨JF ?_,by first | exact((((Keep.refl [] w).alloc _).tO a).alloc _).drew.tO H | exact((((Keep.refl [] w).alloc _).tO a).alloc _).tO H⟩;rw[Bh];simp[FrMay,ZA M,ZA N,ZA O,ZA P]
theorem KBe (v s b c e d:Int) (m:Nat) (xs:List UInt8) (t:Rd w A n (bys xs)) (a:¬ (1<=v/\v<=2147483647)) :
 cr 263 #[frv 9 v s b c e d (.slice A n m)] w (.bool (decide (FrMay 9 v s b c e d xs))):=by
 have k:decide (FrMay 9 v s b c e d xs)=false:=by
  have z:xs.length=n:=uq t.1
  rw[AV];rintro⟨B,g | g | g | g | g⟩ <;> omega
 rw[k];clear k;unfold frv;have l:=fun W=>QC (v) (1) (2147483647) false (AU a) W;obtain⟨u,f⟩:∃ x,decide (1<=s/\s<=2147483647)=x:=⟨_,rfl⟩;have o:=fun W=>QC (s) (1) (2147483647) u f W;have C:=ZB f;clear f;obtain⟨y,h⟩:∃ x,decide (0<=b/\b<=63)=x:=⟨_,rfl⟩;have p:=fun W=>QC (b) (0) (63) y h W;have D:=ZB h;clear h;have q:=Blk.new w 211 #[ii 9,ii v,ii s,ii b,ii c,ii e,ii d,.slice A n m];have E:=ZB a;clear a;go_enter func263,ntmps263
 go_wp2_with (
  (refine(VJ _ _ _ _ _ _ _ _ _ _ _).mono ?_)
  rintro r F ⟨rfl,i⟩;have j:=q.kO i;obtain⟨G,H,I,J,K,L,M,N⟩:=KB j;have O:=j.lt;clear q j)
 go_wp2_with (first
  | (refine(l _).mono ?_;clear l;rintro r w' ⟨rfl,rfl⟩)
  | (refine(o _).mono ?_;clear o;rintro r w' ⟨rfl,rfl⟩)
  | (refine(p _).mono ?_;clear p;rintro r w' ⟨rfl,rfl⟩))
 go_ret;exact⟨rfl,by first | exact((((Keep.refl [] w).alloc _).tO i).alloc _).drew | exact(((Keep.refl [] w).alloc _).tO i).alloc _⟩
theorem JBf (v s b c e d:Int) (m:Nat) (xs:List UInt8) (k:Rd w A n (bys xs)) (f:1<=v/\v<=2147483647) :
 cr 263 #[frv 9 v s b c e d (.slice A n m)] w (.bool (decide (FrMay 9 v s b c e d xs))):=by
 unfold frv;have g:=fun W (u:kz w W)=>Xx 9 v s b c e d 9 v 0 0 0 0 0 (A':=none) m (n':=0) 0 xs [] (k.keep u) (Rd.nil _ _);unfold frv at g;have l:=fun W=>QC (v) (1) (2147483647) true (AH f) W;obtain⟨y,h⟩:∃ x,decide (1<=s/\s<=2147483647)=x:=⟨_,rfl⟩;have o:=fun W=>QC (s) (1) (2147483647) y h W;have C:=ZB h;clear h;obtain⟨z,i⟩:∃ x,decide (0<=b/\b<=63)=x:=⟨_,rfl⟩;have p:=fun W=>QC (b) (0) (63) z i W;have D:=ZB i;clear i;have q:=Blk.new w 211 #[ii 9,ii v,ii s,ii b,ii c,ii e,ii d,.slice A n m];have B:=ZB f;clear f;go_enter func263,ntmps263
 go_wp2_with (
  (refine(VJ _ _ _ _ _ _ _ _ _ _ _).mono ?_)
  rintro r E ⟨rfl,a⟩;have j:=q.kO a;obtain⟨F,G,H,I,J,K,L,M⟩:=KB j;have N:=j.lt;clear q j)
 go_wp2_with (first
  | (refine(l _).mono ?_;clear l;rintro r w' ⟨rfl,rfl⟩)
  | (refine(o _).mono ?_;clear o;rintro r w' ⟨rfl,rfl⟩)
  | (refine(p _).mono ?_;clear p;rintro r w' ⟨rfl,rfl⟩))
 go_wp2_with (refine(g _ (by first | exact((((Keep.refl [] w).alloc _).tO a).alloc _).drew | exact(((Keep.refl [] w).alloc _).tO a).alloc _)).mono ?_;clear g;rintro r O ⟨rfl,t⟩);go_ret;have P:xs.length=n:=uq k.1
 refine⟨JF ?_,by first | exact((((Keep.refl [] w).alloc _).tO a).alloc _).drew.tO t | exact((((Keep.refl [] w).alloc _).tO a).alloc _).tO t⟩;rw[Bh];simp[FrMay,ZA B]
theorem YBd (k v s b c e d:Int) (m:Nat) (xs:List UInt8) (C:Rd w A n (bys xs)) (o:k≠1) (a:k≠2) (p:k≠3) (q:k≠8) (f:k≠9) :
 cr 263 #[frv k v s b c e d (.slice A n m)] w (.bool (decide (FrMay k v s b c e d xs))):=by
 have t:decide (FrMay k v s b c e d xs)=false:=by
  have G:xs.length=n:=uq C.1
  rw[AV];rintro⟨H,g | g | g | g | g⟩ <;> omega
 rw[t];clear t;unfold frv;obtain⟨D,h⟩:∃ x,decide (1<=v/\v<=2147483647)=x:=⟨_,rfl⟩;have u:=fun W=>QC (v) (1) (2147483647) D h W;have I:=ZB h;clear h;obtain⟨E,i⟩:∃ x,decide (1<=s/\s<=2147483647)=x:=⟨_,rfl⟩;have y:=fun W=>QC (s) (1) (2147483647) E i W;have J:=ZB i;clear i;obtain⟨F,j⟩:∃ x,decide (0<=b/\b<=63)=x:=⟨_,rfl⟩;have z:=fun W=>QC (b) (0) (63) F j W;have K:=ZB j;clear j;have B:=Blk.new w 211 #[ii k,ii v,ii s,ii b,ii c,ii e,ii d,.slice A n m];have L:(k == 1)=false:=uq o
 have M:(k == 2)=false:=uq a
 have N:(k == 3)=false:=uq p
 have O:(k == 8)=false:=uq q
 have P:(k == 9)=false:=uq f
 have Q:(k != 9)=true:=uq f
 clear o a p q f;go_enter func263,ntmps263
 go_wp2_with (
  (refine(VJ _ _ _ _ _ _ _ _ _ _ _).mono ?_)
  rintro r R ⟨rfl,a⟩;have l:=B.kO a;obtain⟨S,T,U,V,X,Y,c6,c7⟩:=KB l;have a0:=l.lt;clear B l)
 go_wp2_with (first
  | (refine(u _).mono ?_;clear u;rintro r w' ⟨rfl,rfl⟩)
  | (refine(y _).mono ?_;clear y;rintro r w' ⟨rfl,rfl⟩)
  | (refine(z _).mono ?_;clear z;rintro r w' ⟨rfl,rfl⟩))
 go_ret;exact⟨rfl,by first | exact((((Keep.refl [] w).alloc _).tO a).alloc _).drew | exact(((Keep.refl [] w).alloc _).tO a).alloc _⟩
theorem JAS (k v s b c e d:Int) (m:Nat) (xs:List UInt8) (f:Rd w A n (bys xs)) :
 cr 263 #[frv k v s b c e d (.slice A n m)] w (.bool (decide (FrMay k v s b c e d xs))):=by
 by_cases j:k=1
 . subst j
   by_cases a:1<=v/\v<=2147483647;case neg=>exact JBb v s b c e d m xs f a
   by_cases g:1<=s/\s<=2147483647;case neg=>exact ZBX v s b c e d m xs f a g
   by_cases h:0<=b/\b<=63;case neg=>exact KBf v s b c e d m xs f a g h
   by_cases i:n=64;case neg=>exact ZBg v s b c e d m xs f a g h i
   exact KBb v s b c e d m xs f a g h i
 by_cases l:k=2
 . subst l
   by_cases a:1<=v/\v<=2147483647;case neg=>exact XBZ v s b c e d m xs f a
   by_cases g:1<=s/\s<=2147483647;case neg=>exact XBg v s b c e d m xs f a g
   by_cases h:0<=b/\b<=63;case neg=>exact ZBa v s b c e d m xs f a g h
   by_cases i:1<=c/\c<=64-b;case neg=>exact KBV v s b c e d m xs f a g h i
   exact VBX v s b c e d m xs f a g h i
 by_cases o:k=3
 . subst o
   by_cases a:1<=v/\v<=2147483647;case neg=>exact JBd v s b c e d m xs f a
   by_cases g:1<=s/\s<=2147483647;case neg=>exact XBW v s b c e d m xs f a g
   by_cases h:1<=e/\e<=2147483647;case neg=>exact VBd v s b c e d m xs f a g h
   exact VBc v s b c e d m xs f a g h
 by_cases p:k=8
 . subst p
   by_cases a:1<=v/\v<=2147483647;case neg=>exact KBd v s b c e d m xs f a
   by_cases g:0<=s/\s<=2147483647;case neg=>exact KBY v s b c e d m xs f a g
   by_cases h:0<=e/\e<=2147483647;case neg=>exact YBb v s b c e d m xs f a g h
   by_cases i:0<=d/\d<=s;case neg=>exact VBb v s b c e d m xs f a g h i
   exact QBa v s b c e d m xs f a g h i
 by_cases q:k=9
 . subst q
   by_cases a:1<=v/\v<=2147483647;case neg=>exact KBe v s b c e d m xs f a
   exact JBf v s b c e d m xs f a
 exact YBd k v s b c e d m xs f j l o p q
def Ya (k v s b c e d:Nat) (data:List UInt8):List UInt8:=([75,70,k].flatMap (le 1)++[v,s].flatMap (le 4)++[b,c].flatMap (le 1)++[e,d].flatMap (le 4))++data
def YG (k v s b c e d:Nat) (data:List UInt8):List UInt8:=Ya k v s b c e d data++le 4 (KM (Ya k v s b c e d data))
@[simp] theorem length_frBody (k v s b c e d:Nat) (a:List UInt8):(Ya k v s b c e d a).length=21+a.length:=by
 simp[Ya];omega
@[simp] theorem length_frBytes (k v s b c e d:Nat) (a:List UInt8):(YG k v s b c e d a).length=25+a.length:=by
 simp[YG];omega
theorem FrMay.bounds {v:Nat} (h:FrMay k v s b c e d xs):k<=9/\v<=2147483647/\s<=2147483647/\b<=63/\c<=64/\e<=2147483647/\d<=2147483647/\xs.length<=64:=by
 obtain⟨a,g | g | g | g | g⟩:=h
 . omega
 all_goals
  have:xs=[]:=by simp only[g]
  subst this;simp only[Ai];omega
theorem XBf {a:Nat} {bs:List UInt8} (g:kz w1 W0) (c:RowAt W0 w1.heap.size r v bs a) (h:k=1\/k=2\/k=4) (zs:List Nat) (i:∀ z∈zs,z<256 ^ k) (j:0<zs.length) (l:a+k*zs.length<=bs.length)
 (cs:Array Value) (d:cs.toList=XP zs) (m:Nat) (o:m=zs.length) :
 Calls prog 336 #[pq r,k,.slice (some W0.heap.size) m m] (W0.alloc (.cells cs 3)) fun e w'=>e=.returned (.bool true)/\RowAt w' w1.heap.size r v (laid bs a (zs.flatMap (le k))) (a+k*m)/\kz w1 w':=by
 subst o;have q:=g.alloc (.cells cs 3);have f:RowAt (W0.alloc (.cells cs 3)) w1.heap.size r v bs a:=c.kO (kq.alloc _)
 have s:Rd (W0.alloc (.cells cs 3)) (some W0.heap.size) zs.length (XP zs):=by
  have t:cs.toList.length=zs.length:=by rw[d,length_nats]
  have:=Rd.of_blk (n:=zs.length) (Blk.new W0 3 cs) (uq (Ar t.symm))
  rwa [d,AK sq] at this
 refine(ZAU k f h zs.length zs s (fun p u=>?_) i j l).mono ?_
 . cases u
   intro b;rcases AL.1 b with e | b
   . exact absurd (show W0.heap.size=r from e) (C7 c.blk.lt)
   exact absurd (own_mem c.own b).2 (CQ _)
 rintro e w' ⟨rfl,w,y⟩
 exact⟨rfl,w,q.trans y (fun x b=>.inr (f.fresh x b))⟩
theorem Kb (N:Nat) (H a:List UInt8) (h:H.length+a.length<=N):laid (laid (List.replicate N 0) 0 H) H.length a=laid (List.replicate N 0) 0 (H++a):=by
 have:=YAp (List.replicate N (0:UInt8)) 0 H a (by simp;omega)
 rwa [BB] at this
theorem KK (N:Nat) (H:List UInt8) (h:H.length<=N):(laid (List.replicate N (0:UInt8)) 0 H).length=N:=by
 rw[QG _ _ _ (by simp;omega)];simp
theorem Xn (d:kz w1 W0) (f:RowAt W0 w1.heap.size r v (laid (List.replicate N 0) 0 H) H.length) (g:k=1\/k=2\/k=4) (zs:List Nat) (h:∀ z∈zs,z<256 ^ k) (i:0<zs.length) (a:H.length+k*zs.length<=N)
 (cs:Array Value) (j:cs.toList=XP zs) (m:Nat) (b:m=zs.length) :
 Calls prog 336 #[pq r,k,.slice (some W0.heap.size) m m] (W0.alloc (.cells cs 3)) fun e w'=>e=.returned (.bool true) /\
  RowAt w' w1.heap.size r v (laid (List.replicate N 0) 0 (H++zs.flatMap (le k))) (H++zs.flatMap (le k)).length/\kz w1 w':=by
 refine(XBf d f g zs h i (by rw[KK _ _ Z];exact a) cs j m b).mono ?_;rintro e w' ⟨rfl,c,l⟩;refine⟨rfl,?_,l⟩;rw[Kb _ _ _ (by rw[KD];exact a),b] at c;rw[AE,KD];exact c
theorem QBf (f:kz w1 W0) (a:RowAt W0 w1.heap.size r v (laid (List.replicate N 0) 0 H) H.length) (b:Nat) (ys:List UInt8) (c:Rd W0 S m (bys ys)) (g:H.length+m<=N) :
 Calls prog 352 #[pq r,.slice S m b] W0 fun e w'=>e=.returned (.bool true) /\
  RowAt w' w1.heap.size r v (laid (List.replicate N 0) 0 (H++ys)) (H++ys).length/\kz w1 w':=by
 have h:ys.length=m:=uq c.1
 refine(QBB a b ys c (by rw[KK _ _ Z];exact g)).mono ?_;rintro e w' ⟨rfl,d,i⟩;refine⟨rfl,?_,f.trans i (fun x j=>.inr (a.fresh x j))⟩;rw[Kb _ _ _ Z] at d;rw[AE,h];exact d
theorem QAf (k v s b c e d:Int) (m:Nat) (xs:List UInt8) (f:Rd w A n (bys xs)) (g:¬ FrMay k v s b c e d xs) :
 cr 260 #[frv k v s b c e d (.slice A n m)] w (.tuple #[zn,ii 1]):=by
 have a:=fun W (h:kz w W)=>JAS k v s b c e d m xs (f.keep h);rw[AU g] at a;unfold frv at a ⊢;go_enter func260,ntmps260;go_wp2_with (refine(a _ (by exact kq.alloc _)).mono ?_;clear a;rintro r w1 ⟨rfl,i⟩);go_ret2;exact⟨rfl,(kq.alloc _).tO i⟩
theorem YAC {v:Nat} (m:Nat) (L:Rd w A n (bys xs)) (Q:FrMay k v s b c e d xs) :
 Calls prog 260 #[frv k v s b c e d (.slice A n m)] w fun r w'=>∃ u,r=.returned (.tuple #[u,zz])/\w'.ownsRow w.heap.size 5 1 u (25+n) (bys (YG k v s b c e d xs))/\kz w w':=by
 have I:=fun W (hk:kz w W)=>JAS k v s b c e d m xs (L.keep hk);rw[AH Q] at I;unfold frv at I ⊢;obtain⟨b1,b2,b3,b4,b5,b6,b7,b8⟩:=Q.bounds;have M:xs.length=n:=uq L.1
 rw[M] at b8;have a3:=Blk.new w 211 #[ii k,ii v,ii s,ii b,ii c,ii e,ii d,.slice A n m];have R:=ZB M;clear M;go_enter func260,ntmps260
 go_wp2_with (
  (refine(I _ (by exact kq.alloc _)).mono ?_)
  rintro r w1 ⟨rfl,N⟩;clear I;have E:=a3.kO N;obtain⟨l,o,p,q,t,y,z,B⟩:=KB E;have a9:=E.lt)
 have O:=QAJ (25+n) Z w1;have T:((25+n:Nat):Int)=21+(n:Nat)+4:=Z
 rw[T] at O;clear T
 go_wp2_with (
  (refine O.mono ?_)
  rintro r w2 ⟨g,u,rfl,U,h⟩;clear O;have a:=E.kO h;clear l o p q t y z B;obtain⟨l,o,p,q,t,y,z,B⟩:=KB a;have D:=a.lt)
 have i:RowAt w2 w1.heap.size g u (laid (List.replicate (25+n) 0) 0 []) ([]:List UInt8).length:=by rw[laid_nil];exact U
 clear U;have C:=Xn (k:=1) h i Z [75,70,k] (by simp;omega) sq (by simp[KD] <;> omega) #[ii 75,ii 70,ii k] rfl 3 rfl
 go_wp2_with (
  (refine C.mono ?_)
  clear C;rintro r G ⟨rfl,j,f⟩;clear i h a l o p q t y z B D;have a:=E.kO f;obtain⟨l,o,p,q,t,y,z,B⟩:=KB a;have D:=a.lt;have i:=j;have h:=f;clear j f)
 have C:=Xn (k:=4) h i Z [v,s] (by simp;omega) sq (by simp[KD] <;> omega) #[ii v,ii s] rfl 2 rfl
 go_wp2_with (
  (refine C.mono ?_)
  clear C;rintro r G ⟨rfl,j,f⟩;clear i h a l o p q t y z B D;have a:=E.kO f;obtain⟨l,o,p,q,t,y,z,B⟩:=KB a;have D:=a.lt;have i:=j;have h:=f;clear j f)
 have C:=Xn (k:=1) h i Z [b,c] (by simp;omega) sq (by simp[KD] <;> omega) #[ii b,ii c] rfl 2 rfl
 go_wp2_with (
  (refine C.mono ?_)
  clear C;rintro r G ⟨rfl,j,f⟩;clear i h a l o p q t y z B D;have a:=E.kO f;obtain⟨l,o,p,q,t,y,z,B⟩:=KB a;have D:=a.lt;have i:=j;have h:=f;clear j f)
 have C:=Xn (k:=4) h i Z [e,d] (by simp;omega) sq (by simp[KD] <;> omega) #[ii e,ii d] rfl 2 rfl
 go_wp2_with (
  (refine C.mono ?_)
  clear C;rintro r G ⟨rfl,j,f⟩;clear i h a l o p q t y z B D;have a:=E.kO f;obtain⟨l,o,p,q,t,y,z,B⟩:=KB a;have D:=a.lt;have i:=j;have h:=f;clear j f)
 have V:=QBf h i (S:=A) (m:=n) m xs ((L.keep ((kq.alloc _).tO N)).keep h) (by simp[KD] <;> omega)
 go_wp2_with (
  (refine V.mono ?_)
  clear V;rintro r G ⟨rfl,j,f⟩;clear i h a l o p q t y z B D;have J:=Qm j)
 have X:(((([]++[75,70,k].flatMap (le 1))++[v,s].flatMap (le 4))++[b,c].flatMap (le 1))++[e,d].flatMap (le 4))++xs=Ya k v s b c e d xs:=rfl;rw[X,KK _ _ (by rw[length_frBody];have:=ZA R;omega)] at J;obtain⟨F,K⟩:=ex (Ya k v s b c e d xs);have a4:F.length=21+n:=by rw[K,length_frBody,ZA R]
 rw[<- K] at J;have a5:=ZB K;clear K X
 go_wp2_with (
  (refine J.mono ?_)
  clear J;rintro r w4 ⟨Y,rfl,a0,a6⟩;have H:=Yt (v:=Y) (laid (List.replicate (25+n) 0) 0 F) (w:=w4) (by rw[KK _ _ Z];exact a0) (by rw[KK _ _ Z];omega) (by rw[KK _ _ Z];omega))
 rw[KK _ _ Z] at H;have a1:25+n-4=F.length:=Z
 rw[a1,Kb _ _ _ (by rw[length_le];omega)] at H;have a2:(laid (List.replicate (25+n) 0) 0 F).take F.length=F:=by unfold laid;simp
 rw[a2,Ks _ _ (by simp;omega),ZA a5] at H;clear a2 a1 a4
 go_wp2_with (
  (refine H.mono ?_)
  clear H;rintro r w5 ⟨rfl,a7,a8⟩)
 go_ret2;have P:kz w G:=((kq.alloc _).tO N).tO f;refine⟨Y,rfl,VC a7 P.size,(P.tO a6).trans a8 (fun x hx=>.inr ?_)⟩;exact AB P.size (own_mem a0 hx).1
theorem ZE (h:Blk w g 95 #[x0,x1,x2,x3,x4]) :
 cl w g x0/\cl w (aq g 1) x1/\cl w (aq g 2) x2/\cl w (aq g 3) x3/\cl w (aq g 4) x4:=
 ⟨uq (h.cell 0),uq (h.cell 1),uq (h.cell 2),uq (h.cell 3),uq (h.cell 4)⟩
def put8 (w:World) (g:Nat) (x0 x1 x2 x3 x4 x5 x6 x7:Value):World:=
 (((((((w.setCell g x0).setCell (aq g 1) x1).setCell (aq g 2) x2).setCell (aq g 3) x3).setCell (aq g 4) x4).setCell (aq g 5) x5).setCell (aq g 6) x6).setCell (aq g 7) x7
theorem Blk.put8 {t:TypeId} {d e f i j k l m:Value} (h:Blk w g t #[d,e,f,i,j,k,l,m]) (x0 x1 x2 x3 x4 a b c:Value) :
 Blk (Go.Proofs.YtfedaknhecbehaaGreat.put8 w g x0 x1 x2 x3 x4 a b c) g t #[x0,x1,x2,x3,x4,a,b,c]:=by
 have:=(((((((h.set 0 x0).set 1 x1).set 2 x2).set 3 x3).set 4 x4).set 5 a).set 6 b).set 7 c;simpa [Go.Proofs.YtfedaknhecbehaaGreat.put8] using this
theorem Keep.put8 (w:World) (g:Nat) (x0 x1 x2 x3 x4 a b c:Value):Keep [g] w (Go.Proofs.YtfedaknhecbehaaGreat.put8 w g x0 x1 x2 x3 x4 a b c):=
 (((((((((Keep.refl [g] w).sc g 0).sc g 1).sc g 2).sc g 3).sc g 4).sc g 5).sc g 6).sc g 7)
theorem VAH (h:kz w1 W0) (b:RefAt W0 w1.heap.size r v (laid (List.replicate N 0) 0 H) H.length) (i:k=1\/k=4) (zs:List Nat) (j:∀ z∈zs,z<256 ^ k) (l:0<zs.length) (c:H.length+k*zs.length<=N)
 (cs:Array Value) (d:cs.toList=XP zs) (m:Nat) (o:m=zs.length) :
 Calls prog 273 #[pq r,k,.slice (some W0.heap.size) m m] (W0.alloc (.cells cs 3)) fun e w'=>e=.returned (.bool true) /\
  RefAt w' w1.heap.size r v (laid (List.replicate N 0) 0 (H++zs.flatMap (le k))) (H++zs.flatMap (le k)).length/\kz w1 w':=by
 subst o;have q:=h.alloc (.cells cs 3);have f:RefAt (W0.alloc (.cells cs 3)) w1.heap.size r v _ _:=b.kO (kq.alloc _)
 have s:Rd (W0.alloc (.cells cs 3)) (some W0.heap.size) zs.length (XP zs):=by
  have t:cs.toList.length=zs.length:=by rw[d,length_nats]
  have:=Rd.of_blk (n:=zs.length) (Blk.new W0 3 cs) (uq (Ar t.symm))
  rwa [d,AK sq] at this
 refine(JBo k f i zs.length zs s (fun p u=>?_) j l (by rw[KK _ _ Z];exact c)).mono ?_
 . cases u
   intro a;rcases AL.1 a with e | a
   . exact absurd (show W0.heap.size=r from e) (C7 b.blk.lt)
   exact absurd (own_mem b.own a).2 (CQ _)
 rintro e w' ⟨rfl,g,w⟩
 refine⟨rfl,?_,q.trans w (fun x a=>.inr (f.fresh x a))⟩;rw[Kb _ _ _ (by rw[KD];exact c)] at g;rw[AE,KD];exact g
theorem QAZ (f:kz w1 W0) (a:RefAt W0 w1.heap.size r v (laid (List.replicate N 0) 0 H) H.length) (b:Nat) (ys:List UInt8) (c:Rd W0 S m (bys ys)) (g:H.length+m<=N) :
 Calls prog 272 #[pq r,.slice S m b] W0 fun e w'=>e=.returned (.bool true) /\
  RefAt w' w1.heap.size r v (laid (List.replicate N 0) 0 (H++ys)) (H++ys).length/\kz w1 w':=by
 have h:ys.length=m:=uq c.1
 refine(XBp a b ys c (by rw[KK _ _ Z];exact g)).mono ?_;rintro e w' ⟨rfl,d,i⟩;refine⟨rfl,?_,f.trans i (fun x j=>.inr (a.fresh x j))⟩;rw[Kb _ _ _ Z] at d;rw[AE,h];exact d
theorem QAG (k v s b c e d:Nat) (m:Nat) (xs:List UInt8) (V:Rd w A n (bys xs)) (al:k<=9) (hv:v<=2147483647) (hs:s<=2147483647) (hb:b<=63) (hc:c<=64) (he:e<=2147483647) (hd:d<=2147483647) (hn:n<=64)
 (P:∀ W,cr 270 #[frv k v s b c e d (.slice A n m)] W (.bool true)) :
 Calls prog 157 #[frv k v s b c e d (.slice A n m)] w fun r w'=>∃ u,r=.returned (.tuple #[u,zz])/\w'.ownsRow w.heap.size 5 1 u (25+n) (bys (YG k v s b c e d xs))/\kz w w':=by
 have am:IntKind.u8.wrap ((k:Nat):Int)=(k:Nat):=by unfold IntKind.wrap;simp[IntKind.bits,IntKind.signed];omega
 have X:xs.length=n:=uq V.1
 have Y:=ZB X;clear X;unfold frv at P ⊢;have ad:=Blk.new w 211 #[ii k,ii v,ii s,ii b,ii c,ii e,ii d,.slice A n m];go_enter func157,ntmps157
 go_wp2_with (
  (refine(P _).mono ?_)
  rintro r w1 ⟨rfl,Q⟩;clear P;have G:=ad.kO Q;obtain⟨l,o,p,t,y,z,B,C⟩:=KB G;have an:=G.lt)
 have R:=VAC (25+n) Z w1;have a0:((25+n:Nat):Int)=25+(n:Nat):=Z
 rw[a0] at R;clear a0
 go_wp2_with (
  (refine R.mono ?_)
  rintro r J ⟨g,u,rfl,a1,h⟩;clear R;have a:=G.kO h;clear l o p t y z B C;obtain⟨l,o,p,t,y,z,B,C⟩:=KB a;have D:=a.lt)
 have j:RefAt J w1.heap.size g u (laid (List.replicate (25+n) 0) 0 []) ([]:List UInt8).length:=by rw[laid_nil];exact a1
 clear a1;have a2:=h.alloc (.cells #[.int .u8 75,.int .u8 70,.int .u8 k] 5)
 have a3:Rd (J.alloc (.cells #[.int .u8 75,.int .u8 70,.int .u8 k] 5)) (some J.heap.size) 3 (bys ([75,70,k].flatMap (le 1))):=by
  have:=Rd.of_blk (n:=3) (Blk.new J 5 #[.int .u8 75,.int .u8 70,.int .u8 k]) sq;rw[show bys ([75,70,k].flatMap (le 1))=[.int .u8 75,.int .u8 70,.int .u8 k] by simp[bys,by8,le];omega];exact this
 have H:=QAZ a2 (j.kO (kq.alloc _)) 3 _ a3 (by simp;omega)
 go_wp2_with (
  (refine H.mono ?_)
  clear H a3 a2;rintro r L ⟨rfl,f,i⟩;clear j h a l o p t y z B C D;have a:=G.kO i;obtain⟨l,o,p,t,y,z,B,C⟩:=KB a;have D:=a.lt;have j:=f;have h:=i;clear f i)
 have F:=VAH (k:=4) h j Z [v,s] (by simp <;> omega) sq (by simp[KD] <;> omega) #[ii v,ii s] rfl 2 rfl
 go_wp2_with (
  (refine F.mono ?_)
  clear F;rintro r L ⟨rfl,f,i⟩;clear j h a l o p t y z B C D;have a:=G.kO i;obtain⟨l,o,p,t,y,z,B,C⟩:=KB a;have D:=a.lt;have j:=f;have h:=i;clear f i)
 have F:=VAH (k:=1) h j Z [b,c] (by simp <;> omega) sq (by simp[KD] <;> omega) #[ii b,ii c] rfl 2 rfl
 go_wp2_with (
  (refine F.mono ?_)
  clear F;rintro r L ⟨rfl,f,i⟩;clear j h a l o p t y z B C D;have a:=G.kO i;obtain⟨l,o,p,t,y,z,B,C⟩:=KB a;have D:=a.lt;have j:=f;have h:=i;clear f i)
 have F:=VAH (k:=4) h j Z [e,d] (by simp <;> omega) sq (by simp[KD] <;> omega) #[ii e,ii d] rfl 2 rfl
 go_wp2_with (
  (refine F.mono ?_)
  clear F;rintro r L ⟨rfl,f,i⟩;clear j h a l o p t y z B C D;have a:=G.kO i;obtain⟨l,o,p,t,y,z,B,C⟩:=KB a;have D:=a.lt;have j:=f;have h:=i;clear f i)
 have H:=QAZ h j (S:=A) (m:=n) m xs ((V.keep ((kq.alloc _).tO Q)).keep h) (by simp[KD] <;> omega)
 go_wp2_with (
  (refine H.mono ?_)
  clear H;rintro r L ⟨rfl,f,i⟩;clear j h a l o p t y z B C D)
 have a4:(((([]++[75,70,k].flatMap (le 1))++[v,s].flatMap (le 4))++[b,c].flatMap (le 1))++[e,d].flatMap (le 4))++xs=Ya k v s b c e d xs:=rfl;rw[a4] at f;obtain⟨E,M⟩:=ex (Ya k v s b c e d xs);obtain⟨q,N⟩:=ex (21+n);have O:E.length=q:=by rw[M,length_frBody,ZA Y,N]
 rw[<- M,O] at f;have ae:=ZB M;clear M a4;obtain⟨g2,T,rfl,af⟩:=JI f.own (by rw[KK _ _ Z];omega);have I:=KK (25+n) E Z;have a5:=(Rd.of_own f.own).take (k:=q) (by rw[I];omega);have a6:(laid (List.replicate (25+n) 0) 0 E).take q=E:=by rw[<- O];unfold laid;simp
 rw[ZV,a6] at a5;have U:=f.c0;have h1:=f.c1;rw[I] at U af;have a7:=ZBm T E a5.drew Z;have a8:=QBp (k:=4) w1.heap.size g q (KM E) _ _ f.drew Z (ZW E) (by rw[I];omega) i.drew rfl;have ao:((q:Nat):Int)<=(T:Nat):=Z
 have ag:=ZB N;have ap:q<=85:=Z
 clear N;have a9:=ZB I;have ah:=ZB O;clear I O a6;refine ZT (fun w'=>cl w' g (.slice (some g2) (25+n) T)/\cl w' (aq g 1) (q:Nat)) 11 [[0,1,2,3,4,5,6,7,8,9],[10]] ⟨U,h1⟩ ?_;simp only[PI];iterate 10 refine wG ?_
 refine JB rq fun K h=>?_;go_wp2_with (refine a7.mono ?_;clear a7;rintro r w' ⟨rfl,rfl⟩);refine h _ _ (⟨U,h1⟩) ?_
 try simp only[Act.put,PU]
 refine VB ?_
 go_wp2_with (
  (refine a8.mono ?_)
  clear a8;rintro r w4 ⟨rfl,aa,ai⟩;have aj:=aa.c0;rw[ZA a9] at aj)
 go_ret2;have ak:=ZA ah;have N:=ZA ag;have ab:=aa.own;have ac:kz w w1:=(kq.alloc _).tO Q
 have e1:laid (laid (List.replicate (25+n) 0) 0 E) q (le 4 (KM E))=YG k v s b c e d xs:=by
  rw[<- ak,Kb _ _ _ (by rw[length_le];omega),Ks _ _ (by rw[AE,length_le,BD];omega),ZA ae];rfl
 rw[e1,ZA a9,show (YG k v s b c e d xs).length=25+n by rw[length_frBytes,ZA Y]] at ab;exact⟨_,rfl,VC ab ac.size,ac.tO ai⟩
theorem Jy (v s b:Nat) (A:Option Addr) (m:Nat) (e:1<=v/\v<=2147483647) (f:1<=s/\s<=2147483647) (g:b<=63) (w:World) :
 cr 270 #[frv (1:Nat) v s b (0:Nat) (0:Nat) (0:Nat) (.slice A 64 m)] w (.bool true):=by
 have a:=fun W=>JD (v:Nat) 1 2147483647 true (by simp;omega) W;have c:=fun W=>JD (s:Nat) 1 2147483647 true (by simp;omega) W;have d:=fun W=>JD (b:Nat) 0 63 true (by simp;omega) W;unfold frv;go_enter func270,ntmps270
 go_wp2_with (first
  | (refine(a _).mono ?_;clear a;rintro r w' ⟨rfl,rfl⟩)
  | (refine(c _).mono ?_;clear c;rintro r w' ⟨rfl,rfl⟩)
  | (refine(d _).mono ?_;clear d;rintro r w' ⟨rfl,rfl⟩))
 go_ret;exact⟨rfl,kq.alloc _⟩
theorem VAA (v s b c:Nat) (A:Option Addr) (m:Nat) (g:1<=v/\v<=2147483647) (h:1<=s/\s<=2147483647) (i:b<=63) (j:1<=c/\b+c<=64) (w:World) :
 cr 270 #[frv (2:Nat) v s b c (0:Nat) (0:Nat) (.slice A 0 m)] w (.bool true):=by
 have a:=fun W=>JD (v:Nat) 1 2147483647 true (by simp;omega) W;have d:=fun W=>JD (s:Nat) 1 2147483647 true (by simp;omega) W;have e:=fun W=>JD (b:Nat) 0 63 true (by simp;omega) W;have f:=fun W=>JD (c:Nat) 1 (64-(b:Nat)) true (by simp;omega) W;unfold frv;go_enter func270,ntmps270
 go_wp2_with (first
  | (refine(a _).mono ?_;clear a;rintro r w' ⟨rfl,rfl⟩)
  | (refine(d _).mono ?_;clear d;rintro r w' ⟨rfl,rfl⟩)
  | (refine(e _).mono ?_;clear e;rintro r w' ⟨rfl,rfl⟩)
  | (refine(f _).mono ?_;clear f;rintro r w' ⟨rfl,rfl⟩))
 go_ret;exact⟨rfl,kq.alloc _⟩
theorem KAA (v s e:Nat) (A:Option Addr) (m:Nat) (f:1<=v/\v<=2147483647) (g:1<=s/\s<=2147483647) (h:1<=e/\e<=2147483647) (w:World) :
 cr 270 #[frv (3:Nat) v s (0:Nat) (0:Nat) e (0:Nat) (.slice A 0 m)] w (.bool true):=by
 have a:=fun W=>JD (v:Nat) 1 2147483647 true (by simp;omega) W;have b:=fun W=>JD (s:Nat) 1 2147483647 true (by simp;omega) W;have c:=fun W=>JD 0 0 63 true sq W;have d:=fun W=>JD (e:Nat) 1 2147483647 true (by simp;omega) W;unfold frv;go_enter func270,ntmps270
 go_wp2_with (first
  | (refine(a _).mono ?_;clear a;rintro r w' ⟨rfl,rfl⟩)
  | (refine(b _).mono ?_;clear b;rintro r w' ⟨rfl,rfl⟩)
  | (refine(c _).mono ?_;clear c;rintro r w' ⟨rfl,rfl⟩)
  | (refine(d _).mono ?_;clear d;rintro r w' ⟨rfl,rfl⟩))
 go_ret;exact⟨rfl,kq.alloc _⟩