/- Lemmas of the proof, with their conditions. -/
import Derived.Test.YtfedaknhecbehaaGreatL05
import Derived.Lib.BufferRead
namespace Go.Proofs.YtfedaknhecbehaaGreat
open Tryz Go.RowKit
variable {A S:Option Addr} {n m k s b c e d r N:Nat} {w w1 W0:World} {v:Value} {xs H:List UInt8}
set_option linter.all false
set_option maxHeartbeats 4000000
set_option maxRecDepth 20000
theorem QC (n lo hi:Int) (b:Bool) (a:decide (lo<=n/\n<=hi)=b) (w:World) :
 cq 354 #[ii n,ii lo,ii hi] w (.bool b):=by
 subst a;by_cases c:lo<=n
 . by_cases d:n<=hi
   all_goals
    go_enter func354,ntmps354
    go_wp2
    go_ret;exact⟨by simp[c,d],rfl⟩
 go_enter func354,ntmps354
 go_wp2
 go_ret;exact⟨by simp;omega,rfl⟩
def frv (k v s b c e d:Int) (x:Value):Value:=.agg #[ii k,ii v,ii s,ii b,ii c,ii e,ii d,x]
theorem XK (k v s b c e d:Int) (A:Option Addr) (n m:Nat) (w:World) :
 cr 353 #[frv k v s b c e d (.slice A n m)] w (.agg #[ii k,ii v,zz,zz,zz,zz,zz,zn]):=by
 unfold frv;go_enter func353,ntmps353
 go_wp2
 exact Af (v:=.agg #[ii k,ii v,zz,zz,zz,zz,zz,zn]) (by simp[results,results353,go_sem]) rfl ⟨rfl,(kq.alloc _).alloc _⟩
theorem Qk (c:Nat) (xs:List UInt8) (e:Rd w A n (bys xs)):(convert 66 9 (.slice A n c)).run prog w=.ok (.string ⟨xs.toArray⟩) w:=by
 have f:xs.length=n:=uq e.1;rcases Bm n with d | d
 . subst d
   obtain rfl:=Aw f;rcases A with _ | a
   . exact Lib.run_convert_nil_bytes w _ _ _ c underlying66 underlying5 underlying9
   exact run_convert_bytes_back w _ _ _ a c [] underlying66 underlying5 underlying9 sq
 obtain⟨b,o,rfl,_,g⟩:=e.2 d;have:=run_convert_bytes_back (P:=prog) w 66 9 5 ⟨b,o,none⟩ c xs underlying66 underlying5 underlying9 (fun j h=>by rw[Be];exact g j _ (Yr _ _ h))
 rwa [f] at this
theorem JJ {B:Option Addr} (c d:Nat) (xs ys:List UInt8) (a:Rd w A n (bys xs)) (b:Rd w B m (bys ys)) :
 cq 261 #[.slice A n c,.slice B m d] w (.bool (decide (xs=ys))):=by
 have e:=Qk c xs a;have f:=Qk d ys b;go_enter func261,ntmps261
 go_wp2
 go_ret;exact⟨VF (by rw[Bg];simp),rfl⟩
theorem Yw (k v s b c e d a f g b' h i j:Int) {A':Option Addr} {n':Nat} (m l:Nat) (xs ys:List UInt8) (E:Rd w A n (bys xs)) (F:Rd w A' n' (bys ys)) :
 Calls prog 355 #[frv k v s b c e d (.slice A n m),frv a f g b' h i j (.slice A' n' l)] w fun r w'=>
  r=.returned (.bool (decide (k=a/\v=f/\s=g/\b=b'/\c=h/\e=i/\d=j/\xs=ys)))/\kz w w':=by
 unfold frv;have o:=fun W (p:kz w W)=>JJ m l xs ys (E.keep p) (F.keep p);by_cases t:k=a
 . subst t
   by_cases u:v=f
   . subst u
     by_cases y:s=g
     . subst y
       by_cases z:b=b'
       . subst z
         by_cases B:c=h
         . subst B
           by_cases C:e=i
           . subst C
             by_cases D:d=j
             . subst D
               go_enter func355,ntmps355;go_wp2_with (apply mq (o _ ((kq.alloc _).alloc _));clear o);go_ret;exact⟨VF sq,(kq.alloc _).alloc _⟩
             go_enter func355,ntmps355
             go_wp2
             go_ret;exact⟨VF (by simp[D]),(kq.alloc _).alloc _⟩
           go_enter func355,ntmps355
           go_wp2
           go_ret;exact⟨VF (by simp[C]),(kq.alloc _).alloc _⟩
         go_enter func355,ntmps355
         go_wp2
         go_ret;exact⟨VF (by simp[B]),(kq.alloc _).alloc _⟩
       go_enter func355,ntmps355
       go_wp2
       go_ret;exact⟨VF (by simp[z]),(kq.alloc _).alloc _⟩
     go_enter func355,ntmps355
     go_wp2
     go_ret;exact⟨VF (by simp[y]),(kq.alloc _).alloc _⟩
   go_enter func355,ntmps355
   go_wp2
   go_ret;exact⟨VF (by simp[u]),(kq.alloc _).alloc _⟩
 go_enter func355,ntmps355
 go_wp2
 go_ret;exact⟨VF (by simp[t]),(kq.alloc _).alloc _⟩
def FrMay (k v s b c e d:Int) (data:List UInt8):Prop:=
 (1<=v/\v<=2147483647) /\
   ((k=1/\(1<=s/\s<=2147483647)/\(0<=b/\b<=63)/\c=0/\e=0/\d=0/\data.length=64) \/
    (k=2/\(1<=s/\s<=2147483647)/\(0<=b/\b<=63)/\(1<=c/\c<=64-b)/\e=0/\d=0/\data=[]) \/
    (k=3/\(1<=s/\s<=2147483647)/\b=0/\c=0/\(1<=e/\e<=2147483647)/\d=0/\data=[]) \/
    (k=8/\(0<=s/\s<=2147483647)/\b=0/\c=0/\(0<=e/\e<=2147483647)/\(0<=d/\d<=s)/\data=[]) \/
    (k=9/\s=0/\b=0/\c=0/\e=0/\d=0/\data=[]))
instance (k v s b c e d:Int) (data:List UInt8):Decidable (FrMay k v s b c e d data):=by unfold FrMay;infer_instance
theorem XC {g:Nat} {a b c d e f i j:Value} (h:Blk w g 211 #[a,b,c,d,e,f,i,j]) :
 cl w g a/\cl w (aq g 1) b/\cl w (aq g 2) c/\cl w (aq g 3) d/\cl w (aq g 4) e/\cl w (aq g 5) f/\cl w (aq g 6) i/\cl w (aq g 7) j:=
 ⟨uq (h.cell 0),uq (h.cell 1),uq (h.cell 2),uq (h.cell 3),uq (h.cell 4),uq (h.cell 5),uq (h.cell 6),uq (h.cell 7)⟩
theorem KBb (v s b c e d:Int) (m:Nat) (xs:List UInt8) (C:Rd w A n (bys xs)) (h:¬ (1<=v/\v<=2147483647)) :
 cr 263 #[frv 1 v s b c e d (.slice A n m)] w (.bool (decide (FrMay 1 v s b c e d xs))):=by
 have o:decide (FrMay 1 v s b c e d xs)=false:=by
  have G:xs.length=n:=uq C.1;rw[AY];rintro⟨H,g | g | g | g | g⟩ <;> omega
 rw[o];clear o;unfold frv;have p:=fun W=>QC (v) (1) (2147483647) false (AX h) W;obtain⟨D,i⟩:∃ x,decide (1<=s/\s<=2147483647)=x:=⟨_,rfl⟩;have t:=fun W=>QC (s) (1) (2147483647) D i W;have I:=JB i;clear i;obtain⟨E,j⟩:∃ x,decide (0<=b/\b<=63)=x:=⟨_,rfl⟩;have u:=fun W=>QC (b) (0) (63) E j W;have J:=JB j;clear j;have y:=Blk.new w 211 #[ii 1,ii v,ii s,ii b,ii c,ii e,ii d,.slice A n m];have L:=JB h;clear h;go_enter func263,ntmps263
 go_wp2_with (
  (refine(XK _ _ _ _ _ _ _ _ _ _ _).mono ?_)
  rintro r a ⟨rfl,k⟩;have l:=y.kO k;obtain⟨M,N,O,z,P,Q,R,B⟩:=XC l;have f:=l.lt;clear y l)
 go_wp2_with (first
  | (apply mq (p _);clear p)
  | (apply mq (t _);clear t)
  | (apply mq (u _);clear u))
 refine ZT (fun w'=>cl w' (aq w.heap.size 3) (ii b)/\cl w' (aq w.heap.size 7) (.slice A n m)) 6 [[0,1,2,3,4],[5]] ⟨((((Keep.refl [] a).alloc _).cell f sq _).trans z),((((Keep.refl [] a).alloc _).cell f sq _).trans B)⟩ ?_;simp only[PI];iterate 5 refine wG ?_
 refine YB rq (fun K F=>?_);go_wp2_with fail;refine F _ _ (⟨((((Keep.refl [] a).alloc _).drew.cell f sq _).trans z),((((Keep.refl [] a).alloc _).drew.cell f sq _).trans B)⟩) ?_
 try simp only[Act.put,PU]
 refine KB ?_
 go_wp2_with (first
  | fail)
 go_ret;exact⟨rfl,by first | exact((((Keep.refl [] w).alloc _).tO k).alloc _).drew | exact(((Keep.refl [] w).alloc _).tO k).alloc _⟩
theorem YBh (v s b c e d:Int) (m:Nat) (xs:List UInt8) (C:Rd w A n (bys xs)) (h:1<=v/\v<=2147483647) (i:¬ (1<=s/\s<=2147483647)) :
 cr 263 #[frv 1 v s b c e d (.slice A n m)] w (.bool (decide (FrMay 1 v s b c e d xs))):=by
 have o:decide (FrMay 1 v s b c e d xs)=false:=by
  have F:xs.length=n:=uq C.1;rw[AY];rintro⟨G,g | g | g | g | g⟩ <;> omega
 rw[o];clear o;unfold frv;have p:=fun W=>QC (v) (1) (2147483647) true (AJ h) W;have t:=fun W=>QC (s) (1) (2147483647) false (AX i) W;obtain⟨D,j⟩:∃ x,decide (0<=b/\b<=63)=x:=⟨_,rfl⟩;have u:=fun W=>QC (b) (0) (63) D j W;have H:=JB j;clear j;have y:=Blk.new w 211 #[ii 1,ii v,ii s,ii b,ii c,ii e,ii d,.slice A n m];have I:=JB h;clear h;have J:=JB i;clear i;go_enter func263,ntmps263
 go_wp2_with (
  (refine(XK _ _ _ _ _ _ _ _ _ _ _).mono ?_)
  rintro r a ⟨rfl,k⟩;have l:=y.kO k;obtain⟨L,M,N,z,O,P,Q,B⟩:=XC l;have f:=l.lt;clear y l)
 go_wp2_with (first
  | (apply mq (p _);clear p)
  | (apply mq (t _);clear t)
  | (apply mq (u _);clear u))
 refine ZT (fun w'=>cl w' (aq w.heap.size 3) (ii b)/\cl w' (aq w.heap.size 7) (.slice A n m)) 6 [[0,1,2,3,4],[5]] ⟨((((Keep.refl [] a).alloc _).cell f sq _).trans z),((((Keep.refl [] a).alloc _).cell f sq _).trans B)⟩ ?_;simp only[PI];iterate 5 refine wG ?_
 refine YB rq (fun K E=>?_);go_wp2_with fail;refine E _ _ (⟨((((Keep.refl [] a).alloc _).drew.cell f sq _).trans z),((((Keep.refl [] a).alloc _).drew.cell f sq _).trans B)⟩) ?_
 try simp only[Act.put,PU]
 refine KB ?_
 go_wp2_with (first
  | fail)
 go_ret;exact⟨rfl,by first | exact((((Keep.refl [] w).alloc _).tO k).alloc _).drew | exact(((Keep.refl [] w).alloc _).tO k).alloc _⟩
theorem ZBj (v s b c e d:Int) (m:Nat) (xs:List UInt8) (C:Rd w A n (bys xs)) (h:1<=v/\v<=2147483647) (i:1<=s/\s<=2147483647) (j:¬ (0<=b/\b<=63)) :
 cr 263 #[frv 1 v s b c e d (.slice A n m)] w (.bool (decide (FrMay 1 v s b c e d xs))):=by
 have o:decide (FrMay 1 v s b c e d xs)=false:=by
  have E:xs.length=n:=uq C.1;rw[AY];rintro⟨F,g | g | g | g | g⟩ <;> omega
 rw[o];clear o;unfold frv;have p:=fun W=>QC (v) (1) (2147483647) true (AJ h) W;have t:=fun W=>QC (s) (1) (2147483647) true (AJ i) W;have u:=fun W=>QC (b) (0) (63) false (AX j) W;have y:=Blk.new w 211 #[ii 1,ii v,ii s,ii b,ii c,ii e,ii d,.slice A n m];have G:=JB h;clear h;have H:=JB i;clear i;have I:=JB j;clear j;go_enter func263,ntmps263
 go_wp2_with (
  (refine(XK _ _ _ _ _ _ _ _ _ _ _).mono ?_)
  rintro r a ⟨rfl,k⟩;have l:=y.kO k;obtain⟨J,L,M,z,N,O,P,B⟩:=XC l;have f:=l.lt;clear y l)
 go_wp2_with (first
  | (apply mq (p _);clear p)
  | (apply mq (t _);clear t)
  | (apply mq (u _);clear u))
 refine ZT (fun w'=>cl w' (aq w.heap.size 3) (ii b)/\cl w' (aq w.heap.size 7) (.slice A n m)) 6 [[0,1,2,3,4],[5]] ⟨((((Keep.refl [] a).alloc _).cell f sq _).trans z),((((Keep.refl [] a).alloc _).cell f sq _).trans B)⟩ ?_;simp only[PI];iterate 5 refine wG ?_
 refine YB rq (fun K D=>?_);go_wp2_with fail;refine D _ _ (⟨((((Keep.refl [] a).alloc _).drew.cell f sq _).trans z),((((Keep.refl [] a).alloc _).drew.cell f sq _).trans B)⟩) ?_
 try simp only[Act.put,PU]
 refine KB ?_
 go_wp2_with (first
  | fail)
 go_ret;exact⟨rfl,by first | exact((((Keep.refl [] w).alloc _).tO k).alloc _).drew | exact(((Keep.refl [] w).alloc _).tO k).alloc _⟩
theorem XBb (v s b c e d:Int) (m:Nat) (xs:List UInt8) (C:Rd w A n (bys xs)) (h:1<=v/\v<=2147483647) (i:1<=s/\s<=2147483647) (j:0<=b/\b<=63) (D:¬ (n=64)) :
 cr 263 #[frv 1 v s b c e d (.slice A n m)] w (.bool (decide (FrMay 1 v s b c e d xs))):=by
 have o:decide (FrMay 1 v s b c e d xs)=false:=by
  have F:xs.length=n:=uq C.1;rw[AY];rintro⟨G,g | g | g | g | g⟩ <;> omega
 rw[o];clear o;unfold frv;have p:=fun W=>QC (v) (1) (2147483647) true (AJ h) W;have t:=fun W=>QC (s) (1) (2147483647) true (AJ i) W;have u:=fun W=>QC (b) (0) (63) true (AJ j) W;have y:=Blk.new w 211 #[ii 1,ii v,ii s,ii b,ii c,ii e,ii d,.slice A n m];have H:=JB h;clear h;have I:=JB i;clear i;have J:=JB j;obtain⟨L,M⟩:=j;have N:(((n:Nat):Int) == 64)=false:=by simp;omega
 clear D;go_enter func263,ntmps263
 go_wp2_with (
  (refine(XK _ _ _ _ _ _ _ _ _ _ _).mono ?_)
  rintro r a ⟨rfl,k⟩;have l:=y.kO k;obtain⟨O,P,Q,z,R,S,T,B⟩:=XC l;have f:=l.lt;clear y l)
 go_wp2_with (first
  | (apply mq (p _);clear p)
  | (apply mq (t _);clear t)
  | (apply mq (u _);clear u))
 refine ZT (fun w'=>cl w' (aq w.heap.size 3) (ii b)/\cl w' (aq w.heap.size 7) (.slice A n m)) 6 [[0,1,2,3,4],[5]] ⟨((((Keep.refl [] a).alloc _).cell f sq _).trans z),((((Keep.refl [] a).alloc _).cell f sq _).trans B)⟩ ?_;simp only[PI];iterate 5 refine wG ?_
 refine YB rq (fun K E=>?_);go_wp2_with fail;refine E _ _ (⟨((((Keep.refl [] a).alloc _).drew.cell f sq _).trans z),((((Keep.refl [] a).alloc _).drew.cell f sq _).trans B)⟩) ?_
 try simp only[Act.put,PU]
 refine KB ?_
 go_wp2_with (first
  | fail)
 go_ret;exact⟨rfl,by first | exact((((Keep.refl [] w).alloc _).tO k).alloc _).drew | exact(((Keep.refl [] w).alloc _).tO k).alloc _⟩
theorem XBc (v s b c e d:Int) (m:Nat) (xs:List UInt8) (h:Rd w A n (bys xs)) (i:1<=v/\v<=2147483647) (j:1<=s/\s<=2147483647) (k:0<=b/\b<=63) (E:n=64) :
 cr 263 #[frv 1 v s b c e d (.slice A n m)] w (.bool (decide (FrMay 1 v s b c e d xs))):=by
 unfold frv;have l:=fun W (p:kz w W)=>Yw 1 v s b c e d 1 v s b 0 0 0 m m xs xs (h.keep p) (h.keep p);unfold frv at l;have t:=fun W=>QC (v) (1) (2147483647) true (AJ i) W;have u:=fun W=>QC (s) (1) (2147483647) true (AJ j) W;have y:=fun W=>QC (b) (0) (63) true (AJ k) W;have z:=Blk.new w 211 #[ii 1,ii v,ii s,ii b,ii c,ii e,ii d,.slice A n m];have F:=JB i;clear i;have G:=JB j;clear j;have H:=JB k;obtain⟨L,M⟩:=k;subst E;go_enter func263,ntmps263
 go_wp2_with (
  (refine(XK _ _ _ _ _ _ _ _ _ _ _).mono ?_)
  rintro r f ⟨rfl,a⟩;have o:=z.kO a;obtain⟨N,O,P,B,Q,R,S,C⟩:=XC o;have g:=o.lt;clear z o)
 go_wp2_with (first
  | (apply mq (t _);clear t)
  | (apply mq (u _);clear u)
  | (apply mq (y _);clear y))
 refine ZT (fun w'=>cl w' (aq w.heap.size 3) (ii b)/\cl w' (aq w.heap.size 7) (.slice A 64 m)) 6 [[0,1,2,3,4],[5]] ⟨((((Keep.refl [] f).alloc _).cell g sq _).trans B),((((Keep.refl [] f).alloc _).cell g sq _).trans C)⟩ ?_;simp only[PI];iterate 5 refine wG ?_
 refine YB rq (fun K I=>?_);go_wp2_with fail;refine I _ _ (⟨((((Keep.refl [] f).alloc _).drew.cell g sq _).trans B),((((Keep.refl [] f).alloc _).drew.cell g sq _).trans C)⟩) ?_
 try simp only[Act.put,PU]
 refine KB ?_
 go_wp2_with (first
  | fail)
 go_wp2_with (refine(l _ (by first | exact((((Keep.refl [] w).alloc _).tO a).alloc _).drew | exact(((Keep.refl [] w).alloc _).tO a).alloc _)).mono ?_;clear l;rintro r T ⟨rfl,D⟩);go_ret;have J:xs.length=64:=uq h.1;refine⟨VF ?_,by first | exact((((Keep.refl [] w).alloc _).tO a).alloc _).drew.tO D | exact((((Keep.refl [] w).alloc _).tO a).alloc _).tO D⟩;rw[Bg];simp[FrMay,JA F,JA G,JA H,J]
theorem ZBf (v s b c e d:Int) (m:Nat) (xs:List UInt8) (C:Rd w A n (bys xs)) (h:¬ (1<=v/\v<=2147483647)) :
 cr 263 #[frv 2 v s b c e d (.slice A n m)] w (.bool (decide (FrMay 2 v s b c e d xs))):=by
 have o:decide (FrMay 2 v s b c e d xs)=false:=by
  have G:xs.length=n:=uq C.1;rw[AY];rintro⟨H,g | g | g | g | g⟩ <;> omega
 rw[o];clear o;unfold frv;have p:=fun W=>QC (v) (1) (2147483647) false (AX h) W;obtain⟨D,i⟩:∃ x,decide (1<=s/\s<=2147483647)=x:=⟨_,rfl⟩;have t:=fun W=>QC (s) (1) (2147483647) D i W;have I:=JB i;clear i;obtain⟨E,j⟩:∃ x,decide (0<=b/\b<=63)=x:=⟨_,rfl⟩;have u:=fun W=>QC (b) (0) (63) E j W;have J:=JB j;clear j;have y:=Blk.new w 211 #[ii 2,ii v,ii s,ii b,ii c,ii e,ii d,.slice A n m];have L:=JB h;clear h;go_enter func263,ntmps263
 go_wp2_with (
  (refine(XK _ _ _ _ _ _ _ _ _ _ _).mono ?_)
  rintro r a ⟨rfl,k⟩;have l:=y.kO k;obtain⟨M,N,O,z,B,P,Q,R⟩:=XC l;have f:=l.lt;clear y l)
 go_wp2_with (first
  | (apply mq (p _);clear p)
  | (apply mq (t _);clear t)
  | (apply mq (u _);clear u))
 refine ZT (fun w'=>cl w' (aq w.heap.size 3) (ii b)/\cl w' (aq w.heap.size 4) (ii c)) 6 [[0,1,2,3,4],[5]] ⟨((((Keep.refl [] a).alloc _).cell f sq _).trans z),((((Keep.refl [] a).alloc _).cell f sq _).trans B)⟩ ?_;simp only[PI];iterate 5 refine wG ?_
 refine YB rq (fun K F=>?_);go_wp2_with fail;refine F _ _ (⟨((((Keep.refl [] a).alloc _).drew.cell f sq _).trans z),((((Keep.refl [] a).alloc _).drew.cell f sq _).trans B)⟩) ?_
 try simp only[Act.put,PU]
 refine KB ?_
 go_wp2_with (first
  | fail)
 go_ret;exact⟨rfl,by first | exact((((Keep.refl [] w).alloc _).tO k).alloc _).drew | exact(((Keep.refl [] w).alloc _).tO k).alloc _⟩
theorem QBi (v s b c e d:Int) (m:Nat) (xs:List UInt8) (C:Rd w A n (bys xs)) (h:1<=v/\v<=2147483647) (i:¬ (1<=s/\s<=2147483647)) :
 cr 263 #[frv 2 v s b c e d (.slice A n m)] w (.bool (decide (FrMay 2 v s b c e d xs))):=by
 have o:decide (FrMay 2 v s b c e d xs)=false:=by
  have F:xs.length=n:=uq C.1;rw[AY];rintro⟨G,g | g | g | g | g⟩ <;> omega
 rw[o];clear o;unfold frv;have p:=fun W=>QC (v) (1) (2147483647) true (AJ h) W;have t:=fun W=>QC (s) (1) (2147483647) false (AX i) W;obtain⟨D,j⟩:∃ x,decide (0<=b/\b<=63)=x:=⟨_,rfl⟩;have u:=fun W=>QC (b) (0) (63) D j W;have H:=JB j;clear j;have y:=Blk.new w 211 #[ii 2,ii v,ii s,ii b,ii c,ii e,ii d,.slice A n m];have I:=JB h;clear h;have J:=JB i;clear i;go_enter func263,ntmps263
 go_wp2_with (
  (refine(XK _ _ _ _ _ _ _ _ _ _ _).mono ?_)
  rintro r a ⟨rfl,k⟩;have l:=y.kO k;obtain⟨L,M,N,z,B,O,P,Q⟩:=XC l;have f:=l.lt;clear y l)
 go_wp2_with (first
  | (apply mq (p _);clear p)
  | (apply mq (t _);clear t)
  | (apply mq (u _);clear u))
 refine ZT (fun w'=>cl w' (aq w.heap.size 3) (ii b)/\cl w' (aq w.heap.size 4) (ii c)) 6 [[0,1,2,3,4],[5]] ⟨((((Keep.refl [] a).alloc _).cell f sq _).trans z),((((Keep.refl [] a).alloc _).cell f sq _).trans B)⟩ ?_;simp only[PI];iterate 5 refine wG ?_
 refine YB rq (fun K E=>?_);go_wp2_with fail;refine E _ _ (⟨((((Keep.refl [] a).alloc _).drew.cell f sq _).trans z),((((Keep.refl [] a).alloc _).drew.cell f sq _).trans B)⟩) ?_
 try simp only[Act.put,PU]
 refine KB ?_
 go_wp2_with (first
  | fail)
 go_ret;exact⟨rfl,by first | exact((((Keep.refl [] w).alloc _).tO k).alloc _).drew | exact(((Keep.refl [] w).alloc _).tO k).alloc _⟩
theorem QBb (v s b c e d:Int) (m:Nat) (xs:List UInt8) (C:Rd w A n (bys xs)) (h:1<=v/\v<=2147483647) (i:1<=s/\s<=2147483647) (j:¬ (0<=b/\b<=63)) :
 cr 263 #[frv 2 v s b c e d (.slice A n m)] w (.bool (decide (FrMay 2 v s b c e d xs))):=by
 have o:decide (FrMay 2 v s b c e d xs)=false:=by
  have E:xs.length=n:=uq C.1;rw[AY];rintro⟨F,g | g | g | g | g⟩ <;> omega
 rw[o];clear o;unfold frv;have p:=fun W=>QC (v) (1) (2147483647) true (AJ h) W;have t:=fun W=>QC (s) (1) (2147483647) true (AJ i) W;have u:=fun W=>QC (b) (0) (63) false (AX j) W;have y:=Blk.new w 211 #[ii 2,ii v,ii s,ii b,ii c,ii e,ii d,.slice A n m];have G:=JB h;clear h;have H:=JB i;clear i;have I:=JB j;clear j;go_enter func263,ntmps263
 go_wp2_with (
  (refine(XK _ _ _ _ _ _ _ _ _ _ _).mono ?_)
  rintro r a ⟨rfl,k⟩;have l:=y.kO k;obtain⟨J,L,M,z,B,N,O,P⟩:=XC l;have f:=l.lt;clear y l)
 go_wp2_with (first
  | (apply mq (p _);clear p)
  | (apply mq (t _);clear t)
  | (apply mq (u _);clear u))
 refine ZT (fun w'=>cl w' (aq w.heap.size 3) (ii b)/\cl w' (aq w.heap.size 4) (ii c)) 6 [[0,1,2,3,4],[5]] ⟨((((Keep.refl [] a).alloc _).cell f sq _).trans z),((((Keep.refl [] a).alloc _).cell f sq _).trans B)⟩ ?_;simp only[PI];iterate 5 refine wG ?_
 refine YB rq (fun K D=>?_);go_wp2_with fail;refine D _ _ (⟨((((Keep.refl [] a).alloc _).drew.cell f sq _).trans z),((((Keep.refl [] a).alloc _).drew.cell f sq _).trans B)⟩) ?_
 try simp only[Act.put,PU]
 refine KB ?_
 go_wp2_with (first
  | fail)
 go_ret;exact⟨rfl,by first | exact((((Keep.refl [] w).alloc _).tO k).alloc _).drew | exact(((Keep.refl [] w).alloc _).tO k).alloc _⟩
theorem YBl (v s b c e d:Int) (m:Nat) (xs:List UInt8) (E:Rd w A n (bys xs)) (i:1<=v/\v<=2147483647) (j:1<=s/\s<=2147483647) (k:0<=b/\b<=63) (l:¬ (1<=c/\c<=64-b)) :
 cr 263 #[frv 2 v s b c e d (.slice A n m)] w (.bool (decide (FrMay 2 v s b c e d xs))):=by
 have t:decide (FrMay 2 v s b c e d xs)=false:=by
  have G:xs.length=n:=uq E.1;rw[AY];rintro⟨H,g | g | g | g | g⟩ <;> omega
 rw[t];clear t;unfold frv;have u:=fun W=>QC (v) (1) (2147483647) true (AJ i) W;have y:=fun W=>QC (s) (1) (2147483647) true (AJ j) W;have z:=fun W=>QC (b) (0) (63) true (AJ k) W;have a:=fun W=>QC (c) (1) (64-b) false (AX l) W;have B:=Blk.new w 211 #[ii 2,ii v,ii s,ii b,ii c,ii e,ii d,.slice A n m];have I:=JB i;clear i;have J:=JB j;clear j;have L:=JB k;obtain⟨M,N⟩:=k;have O:=JB l;clear l;go_enter func263,ntmps263
 go_wp2_with (
  (refine(XK _ _ _ _ _ _ _ _ _ _ _).mono ?_)
  rintro r f ⟨rfl,o⟩;have p:=B.kO o;obtain⟨P,Q,R,C,D,S,T,U⟩:=XC p;have h:=p.lt;clear B p)
 go_wp2_with (first
  | (apply mq (u _);clear u)
  | (apply mq (y _);clear y)
  | (apply mq (z _);clear z)
  | (apply mq (a _);clear a))
 refine ZT (fun w'=>cl w' (aq w.heap.size 3) (ii b)/\cl w' (aq w.heap.size 4) (ii c)) 6 [[0,1,2,3,4],[5]] ⟨((((Keep.refl [] f).alloc _).cell h sq _).trans C),((((Keep.refl [] f).alloc _).cell h sq _).trans D)⟩ ?_;simp only[PI];iterate 5 refine wG ?_
 refine YB rq (fun K F=>?_);go_wp2_with fail;refine F _ _ (⟨((((Keep.refl [] f).alloc _).drew.cell h sq _).trans C),((((Keep.refl [] f).alloc _).drew.cell h sq _).trans D)⟩) ?_
 try simp only[Act.put,PU]
 refine KB ?_
 go_wp2_with (first
  | (apply mq (a _);clear a)
  | fail)
 go_ret;exact⟨rfl,by first | exact((((Keep.refl [] w).alloc _).tO o).alloc _).drew | exact(((Keep.refl [] w).alloc _).tO o).alloc _⟩
theorem QBf (v s b c e d:Int) (m:Nat) (xs:List UInt8) (t:Rd w A n (bys xs)) (i:1<=v/\v<=2147483647) (j:1<=s/\s<=2147483647) (k:0<=b/\b<=63) (l:1<=c/\c<=64-b) :
 cr 263 #[frv 2 v s b c e d (.slice A n m)] w (.bool (decide (FrMay 2 v s b c e d xs))):=by
 unfold frv;have o:=fun W (F:kz w W)=>Yw 2 v s b c e d 2 v s b c 0 0 (A':=none) m (n':=0) 0 xs [] (t.keep F) (Rd.nil _ _);unfold frv at o;have u:=fun W=>QC (v) (1) (2147483647) true (AJ i) W;have y:=fun W=>QC (s) (1) (2147483647) true (AJ j) W;have z:=fun W=>QC (b) (0) (63) true (AJ k) W;have f:=fun W=>QC (c) (1) (64-b) true (AJ l) W;have B:=Blk.new w 211 #[ii 2,ii v,ii s,ii b,ii c,ii e,ii d,.slice A n m];have G:=JB i;clear i;have H:=JB j;clear j;have I:=JB k;obtain⟨M,N⟩:=k;have J:=JB l;clear l;go_enter func263,ntmps263
 go_wp2_with (
  (refine(XK _ _ _ _ _ _ _ _ _ _ _).mono ?_)
  rintro r g ⟨rfl,a⟩;have p:=B.kO a;obtain⟨O,P,Q,C,D,R,S,T⟩:=XC p;have h:=p.lt;clear B p)
 go_wp2_with (first
  | (apply mq (u _);clear u)
  | (apply mq (y _);clear y)
  | (apply mq (z _);clear z)
  | (apply mq (f _);clear f))
 refine ZT (fun w'=>cl w' (aq w.heap.size 3) (ii b)/\cl w' (aq w.heap.size 4) (ii c)) 6 [[0,1,2,3,4],[5]] ⟨((((Keep.refl [] g).alloc _).cell h sq _).trans C),((((Keep.refl [] g).alloc _).cell h sq _).trans D)⟩ ?_;simp only[PI];iterate 5 refine wG ?_
 refine YB rq (fun K L=>?_);go_wp2_with fail;refine L _ _ (⟨((((Keep.refl [] g).alloc _).drew.cell h sq _).trans C),((((Keep.refl [] g).alloc _).drew.cell h sq _).trans D)⟩) ?_
 try simp only[Act.put,PU]
 refine KB ?_
 go_wp2_with (first
  | (apply mq (f _);clear f)
  | fail)
 go_wp2_with (refine(o _ (by first | exact((((Keep.refl [] w).alloc _).tO a).alloc _).drew | exact(((Keep.refl [] w).alloc _).tO a).alloc _)).mono ?_;clear o;rintro r U ⟨rfl,E⟩);go_ret;have V:xs.length=n:=uq t.1;refine⟨VF ?_,by first | exact((((Keep.refl [] w).alloc _).tO a).alloc _).drew.tO E | exact((((Keep.refl [] w).alloc _).tO a).alloc _).tO E⟩;rw[Bg];simp[FrMay,JA G,JA H,JA I,JA J]
theorem JBg (v s b c e d:Int) (m:Nat) (xs:List UInt8) (u:Rd w A n (bys xs)) (a:¬ (1<=v/\v<=2147483647)) :
 cr 263 #[frv 3 v s b c e d (.slice A n m)] w (.bool (decide (FrMay 3 v s b c e d xs))):=by
 have k:decide (FrMay 3 v s b c e d xs)=false:=by
  have B:xs.length=n:=uq u.1;rw[AY];rintro⟨C,g | g | g | g | g⟩ <;> omega
 rw[k];clear k;unfold frv;have l:=fun W=>QC (v) (1) (2147483647) false (AX a) W;obtain⟨y,f⟩:∃ x,decide (1<=s/\s<=2147483647)=x:=⟨_,rfl⟩;have o:=fun W=>QC (s) (1) (2147483647) y f W;have D:=JB f;clear f;obtain⟨z,h⟩:∃ x,decide (0<=b/\b<=63)=x:=⟨_,rfl⟩;have p:=fun W=>QC (b) (0) (63) z h W;have E:=JB h;clear h;have t:=Blk.new w 211 #[ii 3,ii v,ii s,ii b,ii c,ii e,ii d,.slice A n m];have F:=JB a;clear a;go_enter func263,ntmps263
 go_wp2_with (
  (refine(XK _ _ _ _ _ _ _ _ _ _ _).mono ?_)
  rintro r G ⟨rfl,i⟩;have j:=t.kO i;obtain⟨H,I,J,K,L,M,N,O⟩:=XC j;have P:=j.lt;clear t j)
 go_wp2_with (first
  | (apply mq (l _);clear l)
  | (apply mq (o _);clear o)
  | (apply mq (p _);clear p))
 go_ret;exact⟨rfl,by first | exact((((Keep.refl [] w).alloc _).tO i).alloc _).drew | exact(((Keep.refl [] w).alloc _).tO i).alloc _⟩
theorem ZBi (v s b c e d:Int) (m:Nat) (xs:List UInt8) (u:Rd w A n (bys xs)) (a:1<=v/\v<=2147483647) (f:¬ (1<=s/\s<=2147483647)) :
 cr 263 #[frv 3 v s b c e d (.slice A n m)] w (.bool (decide (FrMay 3 v s b c e d xs))):=by
 have k:decide (FrMay 3 v s b c e d xs)=false:=by
  have z:xs.length=n:=uq u.1;rw[AY];rintro⟨B,g | g | g | g | g⟩ <;> omega
 rw[k];clear k;unfold frv;have l:=fun W=>QC (v) (1) (2147483647) true (AJ a) W;have o:=fun W=>QC (s) (1) (2147483647) false (AX f) W;obtain⟨y,h⟩:∃ x,decide (0<=b/\b<=63)=x:=⟨_,rfl⟩;have p:=fun W=>QC (b) (0) (63) y h W;have C:=JB h;clear h;have t:=Blk.new w 211 #[ii 3,ii v,ii s,ii b,ii c,ii e,ii d,.slice A n m];have D:=JB a;clear a;have E:=JB f;clear f;go_enter func263,ntmps263
 go_wp2_with (
  (refine(XK _ _ _ _ _ _ _ _ _ _ _).mono ?_)
  rintro r F ⟨rfl,i⟩;have j:=t.kO i;obtain⟨G,H,I,J,K,L,M,N⟩:=XC j;have O:=j.lt;clear t j)
 go_wp2_with (first
  | (apply mq (l _);clear l)
  | (apply mq (o _);clear o)
  | (apply mq (p _);clear p))
 go_ret;exact⟨rfl,by first | exact((((Keep.refl [] w).alloc _).tO i).alloc _).drew | exact(((Keep.refl [] w).alloc _).tO i).alloc _⟩
theorem KBe (v s b c e d:Int) (m:Nat) (xs:List UInt8) (z:Rd w A n (bys xs)) (a:1<=v/\v<=2147483647) (f:1<=s/\s<=2147483647) (h:¬ (1<=e/\e<=2147483647)) :
 cr 263 #[frv 3 v s b c e d (.slice A n m)] w (.bool (decide (FrMay 3 v s b c e d xs))):=by
 have l:decide (FrMay 3 v s b c e d xs)=false:=by
  have C:xs.length=n:=uq z.1;rw[AY];rintro⟨D,g | g | g | g | g⟩ <;> omega
 rw[l];clear l;unfold frv;have o:=fun W=>QC (v) (1) (2147483647) true (AJ a) W;have p:=fun W=>QC (s) (1) (2147483647) true (AJ f) W;obtain⟨B,i⟩:∃ x,decide (0<=b/\b<=63)=x:=⟨_,rfl⟩;have t:=fun W=>QC (b) (0) (63) B i W;have E:=JB i;clear i;have u:=fun W=>QC (e) (1) (2147483647) false (AX h) W;have y:=Blk.new w 211 #[ii 3,ii v,ii s,ii b,ii c,ii e,ii d,.slice A n m];have F:=JB a;clear a;have G:=JB f;clear f;have H:=JB h;clear h;go_enter func263,ntmps263
 go_wp2_with (
  (refine(XK _ _ _ _ _ _ _ _ _ _ _).mono ?_)
  rintro r I ⟨rfl,j⟩;have k:=y.kO j;obtain⟨J,K,L,M,N,O,P,Q⟩:=XC k;have R:=k.lt;clear y k)
 go_wp2_with (first
  | (apply mq (o _);clear o)
  | (apply mq (p _);clear p)
  | (apply mq (t _);clear t)
  | (apply mq (u _);clear u))
 go_ret;exact⟨rfl,by first | exact((((Keep.refl [] w).alloc _).tO j).alloc _).drew | exact(((Keep.refl [] w).alloc _).tO j).alloc _⟩
theorem YBc (v s b c e d:Int) (m:Nat) (xs:List UInt8) (l:Rd w A n (bys xs)) (f:1<=v/\v<=2147483647) (g:1<=s/\s<=2147483647) (h:1<=e/\e<=2147483647) :
 cr 263 #[frv 3 v s b c e d (.slice A n m)] w (.bool (decide (FrMay 3 v s b c e d xs))):=by
 unfold frv;have i:=fun W (B:kz w W)=>Yw 3 v s b c e d 3 v s 0 0 e 0 (A':=none) m (n':=0) 0 xs [] (l.keep B) (Rd.nil _ _);unfold frv at i;have o:=fun W=>QC (v) (1) (2147483647) true (AJ f) W;have p:=fun W=>QC (s) (1) (2147483647) true (AJ g) W;obtain⟨C,j⟩:∃ x,decide (0<=b/\b<=63)=x:=⟨_,rfl⟩;have t:=fun W=>QC (b) (0) (63) C j W;have G:=JB j;clear j;have u:=fun W=>QC (e) (1) (2147483647) true (AJ h) W;have y:=Blk.new w 211 #[ii 3,ii v,ii s,ii b,ii c,ii e,ii d,.slice A n m];have D:=JB f;clear f;have E:=JB g;clear g;have F:=JB h;clear h;go_enter func263,ntmps263
 go_wp2_with (
  (refine(XK _ _ _ _ _ _ _ _ _ _ _).mono ?_)
  rintro r H ⟨rfl,a⟩;have k:=y.kO a;obtain⟨I,J,K,L,M,N,O,P⟩:=XC k;have Q:=k.lt;clear y k)
 go_wp2_with (first
  | (apply mq (o _);clear o)
  | (apply mq (p _);clear p)
  | (apply mq (t _);clear t)
  | (apply mq (u _);clear u))
 go_wp2_with (refine(i _ (by first | exact((((Keep.refl [] w).alloc _).tO a).alloc _).drew | exact(((Keep.refl [] w).alloc _).tO a).alloc _)).mono ?_;clear i;rintro r R ⟨rfl,z⟩);go_ret;have S:xs.length=n:=uq l.1;refine⟨VF ?_,by first | exact((((Keep.refl [] w).alloc _).tO a).alloc _).drew.tO z | exact((((Keep.refl [] w).alloc _).tO a).alloc _).tO z⟩;rw[Bg];simp[FrMay,JA D,JA E,JA F]
theorem ZBh (v s b c e d:Int) (m:Nat) (xs:List UInt8) (C:Rd w A n (bys xs)) (h:¬ (1<=v/\v<=2147483647)) :
 cr 263 #[frv 8 v s b c e d (.slice A n m)] w (.bool (decide (FrMay 8 v s b c e d xs))):=by
 have o:decide (FrMay 8 v s b c e d xs)=false:=by
  have G:xs.length=n:=uq C.1;rw[AY];rintro⟨H,g | g | g | g | g⟩ <;> omega
 rw[o];clear o;unfold frv;have p:=fun W=>QC (v) (1) (2147483647) false (AX h) W;obtain⟨D,i⟩:∃ x,decide (1<=s/\s<=2147483647)=x:=⟨_,rfl⟩;have t:=fun W=>QC (s) (1) (2147483647) D i W;have I:=JB i;clear i;obtain⟨E,j⟩:∃ x,decide (0<=b/\b<=63)=x:=⟨_,rfl⟩;have u:=fun W=>QC (b) (0) (63) E j W;have J:=JB j;clear j;have y:=Blk.new w 211 #[ii 8,ii v,ii s,ii b,ii c,ii e,ii d,.slice A n m];have L:=JB h;clear h;go_enter func263,ntmps263
 go_wp2_with (
  (refine(XK _ _ _ _ _ _ _ _ _ _ _).mono ?_)
  rintro r a ⟨rfl,k⟩;have l:=y.kO k;obtain⟨M,N,O,P,Q,z,B,R⟩:=XC l;have f:=l.lt;clear y l)
 go_wp2_with (first
  | (apply mq (p _);clear p)
  | (apply mq (t _);clear t)
  | (apply mq (u _);clear u))
 refine ZT (fun w'=>cl w' (aq w.heap.size 5) (ii e)/\cl w' (aq w.heap.size 6) (ii d)) 6 [[0,1,2,3,4],[5]] ⟨((((Keep.refl [] a).alloc _).cell f sq _).trans z),((((Keep.refl [] a).alloc _).cell f sq _).trans B)⟩ ?_;simp only[PI];iterate 5 refine wG ?_
 refine YB rq (fun K F=>?_);go_wp2_with fail;refine F _ _ (⟨((((Keep.refl [] a).alloc _).drew.cell f sq _).trans z),((((Keep.refl [] a).alloc _).drew.cell f sq _).trans B)⟩) ?_
 try simp only[Act.put,PU]
 refine KB ?_
 go_wp2_with (first
  | fail)
 go_ret;exact⟨rfl,by first | exact((((Keep.refl [] w).alloc _).tO k).alloc _).drew | exact(((Keep.refl [] w).alloc _).tO k).alloc _⟩
theorem KBd (v s b c e d:Int) (m:Nat) (xs:List UInt8) (E:Rd w A n (bys xs)) (i:1<=v/\v<=2147483647) (j:¬ (0<=s/\s<=2147483647)) :
 cr 263 #[frv 8 v s b c e d (.slice A n m)] w (.bool (decide (FrMay 8 v s b c e d xs))):=by
 have t:decide (FrMay 8 v s b c e d xs)=false:=by
  have I:xs.length=n:=uq E.1;rw[AY];rintro⟨J,g | g | g | g | g⟩ <;> omega
 rw[t];clear t;unfold frv;have u:=fun W=>QC (v) (1) (2147483647) true (AJ i) W;obtain⟨F,k⟩:∃ x,decide (1<=s/\s<=2147483647)=x:=⟨_,rfl⟩;have y:=fun W=>QC (s) (1) (2147483647) F k W;have L:=JB k;clear k;obtain⟨G,l⟩:∃ x,decide (0<=b/\b<=63)=x:=⟨_,rfl⟩;have z:=fun W=>QC (b) (0) (63) G l W;have M:=JB l;clear l;have a:=fun W=>QC (s) (0) (2147483647) false (AX j) W;have B:=Blk.new w 211 #[ii 8,ii v,ii s,ii b,ii c,ii e,ii d,.slice A n m];have N:=JB i;clear i;have O:=JB j;clear j;go_enter func263,ntmps263
 go_wp2_with (
  (refine(XK _ _ _ _ _ _ _ _ _ _ _).mono ?_)
  rintro r f ⟨rfl,o⟩;have p:=B.kO o;obtain⟨P,Q,R,S,T,C,D,U⟩:=XC p;have h:=p.lt;clear B p)
 go_wp2_with (first
  | (apply mq (u _);clear u)
  | (apply mq (y _);clear y)
  | (apply mq (z _);clear z)
  | (apply mq (a _);clear a))
 refine ZT (fun w'=>cl w' (aq w.heap.size 5) (ii e)/\cl w' (aq w.heap.size 6) (ii d)) 6 [[0,1,2,3,4],[5]] ⟨((((Keep.refl [] f).alloc _).cell h sq _).trans C),((((Keep.refl [] f).alloc _).cell h sq _).trans D)⟩ ?_;simp only[PI];iterate 5 refine wG ?_
 refine YB rq (fun K H=>?_);go_wp2_with fail;refine H _ _ (⟨((((Keep.refl [] f).alloc _).drew.cell h sq _).trans C),((((Keep.refl [] f).alloc _).drew.cell h sq _).trans D)⟩) ?_
 try simp only[Act.put,PU]
 refine KB ?_
 go_wp2_with (first
  | (apply mq (a _);clear a)
  | fail)
 go_ret;exact⟨rfl,by first | exact((((Keep.refl [] w).alloc _).tO o).alloc _).drew | exact(((Keep.refl [] w).alloc _).tO o).alloc _⟩
theorem XBi (v s b c e d:Int) (m:Nat) (xs:List UInt8) (G:Rd w A n (bys xs)) (j:1<=v/\v<=2147483647) (k:0<=s/\s<=2147483647) (l:¬ (0<=e/\e<=2147483647)) :
 cr 263 #[frv 8 v s b c e d (.slice A n m)] w (.bool (decide (FrMay 8 v s b c e d xs))):=by
 have y:decide (FrMay 8 v s b c e d xs)=false:=by
  have L:xs.length=n:=uq G.1;rw[AY];rintro⟨M,g | g | g | g | g⟩ <;> omega
 rw[y];clear y;unfold frv;have z:=fun W=>QC (v) (1) (2147483647) true (AJ j) W;obtain⟨H,o⟩:∃ x,decide (1<=s/\s<=2147483647)=x:=⟨_,rfl⟩;have B:=fun W=>QC (s) (1) (2147483647) H o W;have N:=JB o;clear o;obtain⟨I,p⟩:∃ x,decide (0<=b/\b<=63)=x:=⟨_,rfl⟩;have C:=fun W=>QC (b) (0) (63) I p W;have O:=JB p;clear p;have a:=fun W=>QC (s) (0) (2147483647) true (AJ k) W;have f:=fun W=>QC (e) (0) (2147483647) false (AX l) W;have D:=Blk.new w 211 #[ii 8,ii v,ii s,ii b,ii c,ii e,ii d,.slice A n m];have P:=JB j;clear j;have Q:=JB k;clear k;have R:=JB l;clear l;go_enter func263,ntmps263
 go_wp2_with (
  (refine(XK _ _ _ _ _ _ _ _ _ _ _).mono ?_)
  rintro r h ⟨rfl,t⟩;have u:=D.kO t;obtain⟨S,T,U,V,X,E,F,Y⟩:=XC u;have i:=u.lt;clear D u)
 go_wp2_with (first
  | (apply mq (z _);clear z)
  | (apply mq (B _);clear B)
  | (apply mq (C _);clear C)
  | (apply mq (a _);clear a)
  | (apply mq (f _);clear f))
 refine ZT (fun w'=>cl w' (aq w.heap.size 5) (ii e)/\cl w' (aq w.heap.size 6) (ii d)) 6 [[0,1,2,3,4],[5]] ⟨((((Keep.refl [] h).alloc _).cell i sq _).trans E),((((Keep.refl [] h).alloc _).cell i sq _).trans F)⟩ ?_;simp only[PI];iterate 5 refine wG ?_
 refine YB rq (fun K J=>?_);go_wp2_with fail;refine J _ _ (⟨((((Keep.refl [] h).alloc _).drew.cell i sq _).trans E),((((Keep.refl [] h).alloc _).drew.cell i sq _).trans F)⟩) ?_
 try simp only[Act.put,PU]
 refine KB ?_
 go_wp2_with (first
  | (apply mq (a _);clear a)
  | (apply mq (f _);clear f)
  | fail)
 go_ret;exact⟨rfl,by first | exact((((Keep.refl [] w).alloc _).tO t).alloc _).drew | exact(((Keep.refl [] w).alloc _).tO t).alloc _⟩
theorem ZBb (v s b c e d:Int) (m:Nat) (xs:List UInt8) (I:Rd w A n (bys xs)) (k:1<=v/\v<=2147483647) (l:0<=s/\s<=2147483647) (o:0<=e/\e<=2147483647) (p:¬ (0<=d/\d<=s)) :
 cr 263 #[frv 8 v s b c e d (.slice A n m)] w (.bool (decide (FrMay 8 v s b c e d xs))):=by
 have B:decide (FrMay 8 v s b c e d xs)=false:=by
  have N:xs.length=n:=uq I.1;rw[AY];rintro⟨O,g | g | g | g | g⟩ <;> omega
 rw[B];clear B;unfold frv;have C:=fun W=>QC (v) (1) (2147483647) true (AJ k) W;obtain⟨J,t⟩:∃ x,decide (1<=s/\s<=2147483647)=x:=⟨_,rfl⟩;have D:=fun W=>QC (s) (1) (2147483647) J t W;have P:=JB t;clear t;obtain⟨L,u⟩:∃ x,decide (0<=b/\b<=63)=x:=⟨_,rfl⟩;have E:=fun W=>QC (b) (0) (63) L u W;have Q:=JB u;clear u;have a:=fun W=>QC (s) (0) (2147483647) true (AJ l) W;have f:=fun W=>QC (e) (0) (2147483647) true (AJ o) W;have h:=fun W=>QC (d) (0) (s) false (AX p) W;have F:=Blk.new w 211 #[ii 8,ii v,ii s,ii b,ii c,ii e,ii d,.slice A n m];have R:=JB k;clear k;have S:=JB l;clear l;have T:=JB o;clear o;have U:=JB p;clear p;go_enter func263,ntmps263
 go_wp2_with (
  (refine(XK _ _ _ _ _ _ _ _ _ _ _).mono ?_)
  rintro r i ⟨rfl,y⟩;have z:=F.kO y;obtain⟨V,X,Y,a0,c4,G,H,c7⟩:=XC z;have j:=z.lt;clear F z)
 go_wp2_with (first
  | (apply mq (C _);clear C)
  | (apply mq (D _);clear D)
  | (apply mq (E _);clear E)
  | (apply mq (a _);clear a)
  | (apply mq (f _);clear f)
  | (apply mq (h _);clear h))
 refine ZT (fun w'=>cl w' (aq w.heap.size 5) (ii e)/\cl w' (aq w.heap.size 6) (ii d)) 6 [[0,1,2,3,4],[5]] ⟨((((Keep.refl [] i).alloc _).cell j sq _).trans G),((((Keep.refl [] i).alloc _).cell j sq _).trans H)⟩ ?_;simp only[PI];iterate 5 refine wG ?_
 refine YB rq (fun K M=>?_);go_wp2_with fail;refine M _ _ (⟨((((Keep.refl [] i).alloc _).drew.cell j sq _).trans G),((((Keep.refl [] i).alloc _).drew.cell j sq _).trans H)⟩) ?_
 try simp only[Act.put,PU]
 refine KB ?_
 go_wp2_with (first
  | (apply mq (a _);clear a)
  | (apply mq (f _);clear f)
  | (apply mq (h _);clear h)
  | fail)
 go_ret;exact⟨rfl,by first | exact((((Keep.refl [] w).alloc _).tO y).alloc _).drew | exact(((Keep.refl [] w).alloc _).tO y).alloc _⟩
theorem QBk (v s b c e d:Int) (m:Nat) (xs:List UInt8) (B:Rd w A n (bys xs)) (k:1<=v/\v<=2147483647) (l:0<=s/\s<=2147483647) (o:0<=e/\e<=2147483647) (p:0<=d/\d<=s) :
 cr 263 #[frv 8 v s b c e d (.slice A n m)] w (.bool (decide (FrMay 8 v s b c e d xs))):=by
 unfold frv;have t:=fun W (J:kz w W)=>Yw 8 v s b c e d 8 v s 0 0 e d (A':=none) m (n':=0) 0 xs [] (B.keep J) (Rd.nil _ _);unfold frv at t;have C:=fun W=>QC (v) (1) (2147483647) true (AJ k) W;obtain⟨L,u⟩:∃ x,decide (1<=s/\s<=2147483647)=x:=⟨_,rfl⟩;have D:=fun W=>QC (s) (1) (2147483647) L u W;have S:=JB u;clear u;obtain⟨M,y⟩:∃ x,decide (0<=b/\b<=63)=x:=⟨_,rfl⟩;have E:=fun W=>QC (b) (0) (63) M y W;have T:=JB y;clear y;have f:=fun W=>QC (s) (0) (2147483647) true (AJ l) W;have g:=fun W=>QC (e) (0) (2147483647) true (AJ o) W;have h:=fun W=>QC (d) (0) (s) true (AJ p) W;have F:=Blk.new w 211 #[ii 8,ii v,ii s,ii b,ii c,ii e,ii d,.slice A n m];have N:=JB k;clear k;have O:=JB l;clear l;have P:=JB o;clear o;have Q:=JB p;clear p;go_enter func263,ntmps263
 go_wp2_with (
  (refine(XK _ _ _ _ _ _ _ _ _ _ _).mono ?_)
  rintro r i ⟨rfl,a⟩;have z:=F.kO a;obtain⟨U,V,X,Y,c4,G,H,c7⟩:=XC z;have j:=z.lt;clear F z)
 go_wp2_with (first
  | (apply mq (C _);clear C)
  | (apply mq (D _);clear D)
  | (apply mq (E _);clear E)
  | (apply mq (f _);clear f)
  | (apply mq (g _);clear g)
  | (apply mq (h _);clear h))
 refine ZT (fun w'=>cl w' (aq w.heap.size 5) (ii e)/\cl w' (aq w.heap.size 6) (ii d)) 6 [[0,1,2,3,4],[5]] ⟨((((Keep.refl [] i).alloc _).cell j sq _).trans G),((((Keep.refl [] i).alloc _).cell j sq _).trans H)⟩ ?_;simp only[PI];iterate 5 refine wG ?_
 refine YB rq (fun K R=>?_);go_wp2_with fail;refine R _ _ (⟨((((Keep.refl [] i).alloc _).drew.cell j sq _).trans G),((((Keep.refl [] i).alloc _).drew.cell j sq _).trans H)⟩) ?_
 try simp only[Act.put,PU]
 refine KB ?_
 go_wp2_with (first
  | (apply mq (f _);clear f)
  | (apply mq (g _);clear g)
  | (apply mq (h _);clear h)
  | fail)
 go_wp2_with (refine(t _ (by first | exact((((Keep.refl [] w).alloc _).tO a).alloc _).drew | exact(((Keep.refl [] w).alloc _).tO a).alloc _)).mono ?_;clear t;rintro r w3 ⟨rfl,I⟩);go_ret;have hl:xs.length=n:=uq B.1;refine⟨VF ?_,by first | exact((((Keep.refl [] w).alloc _).tO a).alloc _).drew.tO I | exact((((Keep.refl [] w).alloc _).tO a).alloc _).tO I⟩;rw[Bg];simp[FrMay,JA N,JA O,JA P,JA Q]
theorem QBh (v s b c e d:Int) (m:Nat) (xs:List UInt8) (u:Rd w A n (bys xs)) (a:¬ (1<=v/\v<=2147483647)) :
 cr 263 #[frv 9 v s b c e d (.slice A n m)] w (.bool (decide (FrMay 9 v s b c e d xs))):=by
 have k:decide (FrMay 9 v s b c e d xs)=false:=by
  have B:xs.length=n:=uq u.1;rw[AY];rintro⟨C,g | g | g | g | g⟩ <;> omega
 rw[k];clear k;unfold frv;have l:=fun W=>QC (v) (1) (2147483647) false (AX a) W;obtain⟨y,f⟩:∃ x,decide (1<=s/\s<=2147483647)=x:=⟨_,rfl⟩;have o:=fun W=>QC (s) (1) (2147483647) y f W;have D:=JB f;clear f;obtain⟨z,h⟩:∃ x,decide (0<=b/\b<=63)=x:=⟨_,rfl⟩;have p:=fun W=>QC (b) (0) (63) z h W;have E:=JB h;clear h;have t:=Blk.new w 211 #[ii 9,ii v,ii s,ii b,ii c,ii e,ii d,.slice A n m];have F:=JB a;clear a;go_enter func263,ntmps263
 go_wp2_with (
  (refine(XK _ _ _ _ _ _ _ _ _ _ _).mono ?_)
  rintro r G ⟨rfl,i⟩;have j:=t.kO i;obtain⟨H,I,J,K,L,M,N,O⟩:=XC j;have P:=j.lt;clear t j)
 go_wp2_with (first
  | (apply mq (l _);clear l)
  | (apply mq (o _);clear o)
  | (apply mq (p _);clear p))
 go_ret;exact⟨rfl,by first | exact((((Keep.refl [] w).alloc _).tO i).alloc _).drew | exact(((Keep.refl [] w).alloc _).tO i).alloc _⟩
theorem YBe (v s b c e d:Int) (m:Nat) (xs:List UInt8) (k:Rd w A n (bys xs)) (f:1<=v/\v<=2147483647) :
 cr 263 #[frv 9 v s b c e d (.slice A n m)] w (.bool (decide (FrMay 9 v s b c e d xs))):=by
 unfold frv;have g:=fun W (y:kz w W)=>Yw 9 v s b c e d 9 v 0 0 0 0 0 (A':=none) m (n':=0) 0 xs [] (k.keep y) (Rd.nil _ _);unfold frv at g;have l:=fun W=>QC (v) (1) (2147483647) true (AJ f) W;obtain⟨z,h⟩:∃ x,decide (1<=s/\s<=2147483647)=x:=⟨_,rfl⟩;have o:=fun W=>QC (s) (1) (2147483647) z h W;have D:=JB h;clear h;obtain⟨B,i⟩:∃ x,decide (0<=b/\b<=63)=x:=⟨_,rfl⟩;have p:=fun W=>QC (b) (0) (63) B i W;have E:=JB i;clear i;have t:=Blk.new w 211 #[ii 9,ii v,ii s,ii b,ii c,ii e,ii d,.slice A n m];have C:=JB f;clear f;go_enter func263,ntmps263
 go_wp2_with (
  (refine(XK _ _ _ _ _ _ _ _ _ _ _).mono ?_)
  rintro r F ⟨rfl,a⟩;have j:=t.kO a;obtain⟨G,H,I,J,K,L,M,N⟩:=XC j;have O:=j.lt;clear t j)
 go_wp2_with (first
  | (apply mq (l _);clear l)
  | (apply mq (o _);clear o)
  | (apply mq (p _);clear p))
 go_wp2_with (refine(g _ (by first | exact((((Keep.refl [] w).alloc _).tO a).alloc _).drew | exact(((Keep.refl [] w).alloc _).tO a).alloc _)).mono ?_;clear g;rintro r P ⟨rfl,u⟩);go_ret;have Q:xs.length=n:=uq k.1;refine⟨VF ?_,by first | exact((((Keep.refl [] w).alloc _).tO a).alloc _).drew.tO u | exact((((Keep.refl [] w).alloc _).tO a).alloc _).tO u⟩;rw[Bg];simp[FrMay,JA C]
theorem XBg (k v s b c e d:Int) (m:Nat) (xs:List UInt8) (D:Rd w A n (bys xs)) (o:k≠1) (a:k≠2) (p:k≠3) (t:k≠8) (f:k≠9) :
 cr 263 #[frv k v s b c e d (.slice A n m)] w (.bool (decide (FrMay k v s b c e d xs))):=by
 have u:decide (FrMay k v s b c e d xs)=false:=by
  have H:xs.length=n:=uq D.1;rw[AY];rintro⟨I,g | g | g | g | g⟩ <;> omega
 rw[u];clear u;unfold frv;obtain⟨E,h⟩:∃ x,decide (1<=v/\v<=2147483647)=x:=⟨_,rfl⟩;have y:=fun W=>QC (v) (1) (2147483647) E h W;have J:=JB h;clear h;obtain⟨F,i⟩:∃ x,decide (1<=s/\s<=2147483647)=x:=⟨_,rfl⟩;have z:=fun W=>QC (s) (1) (2147483647) F i W;have K:=JB i;clear i;obtain⟨G,j⟩:∃ x,decide (0<=b/\b<=63)=x:=⟨_,rfl⟩;have B:=fun W=>QC (b) (0) (63) G j W;have L:=JB j;clear j;have C:=Blk.new w 211 #[ii k,ii v,ii s,ii b,ii c,ii e,ii d,.slice A n m];have M:(k == 1)=false:=uq o;have N:(k == 2)=false:=uq a;have O:(k == 3)=false:=uq p;have P:(k == 8)=false:=uq t;have Q:(k == 9)=false:=uq f;have R:(k != 9)=true:=uq f;clear o a p t f;go_enter func263,ntmps263
 go_wp2_with (
  (refine(XK _ _ _ _ _ _ _ _ _ _ _).mono ?_)
  rintro r S ⟨rfl,a⟩;have l:=C.kO a;obtain⟨T,U,V,X,Y,c5,c6,c7⟩:=XC l;have a0:=l.lt;clear C l)
 go_wp2_with (first
  | (apply mq (y _);clear y)
  | (apply mq (z _);clear z)
  | (apply mq (B _);clear B))
 go_ret;exact⟨rfl,by first | exact((((Keep.refl [] w).alloc _).tO a).alloc _).drew | exact(((Keep.refl [] w).alloc _).tO a).alloc _⟩
theorem YAZ (k v s b c e d:Int) (m:Nat) (xs:List UInt8) (f:Rd w A n (bys xs)) :
 cr 263 #[frv k v s b c e d (.slice A n m)] w (.bool (decide (FrMay k v s b c e d xs))):=by
 by_cases j:k=1
 . subst j
   by_cases a:1<=v/\v<=2147483647;case neg=>exact KBb v s b c e d m xs f a
   by_cases g:1<=s/\s<=2147483647;case neg=>exact YBh v s b c e d m xs f a g
   by_cases h:0<=b/\b<=63;case neg=>exact ZBj v s b c e d m xs f a g h
   by_cases i:n=64;case neg=>exact XBb v s b c e d m xs f a g h i
   exact XBc v s b c e d m xs f a g h i
 by_cases l:k=2
 . subst l
   by_cases a:1<=v/\v<=2147483647;case neg=>exact ZBf v s b c e d m xs f a
   by_cases g:1<=s/\s<=2147483647;case neg=>exact QBi v s b c e d m xs f a g
   by_cases h:0<=b/\b<=63;case neg=>exact QBb v s b c e d m xs f a g h
   by_cases i:1<=c/\c<=64-b;case neg=>exact YBl v s b c e d m xs f a g h i
   exact QBf v s b c e d m xs f a g h i
 by_cases o:k=3
 . subst o
   by_cases a:1<=v/\v<=2147483647;case neg=>exact JBg v s b c e d m xs f a
   by_cases g:1<=s/\s<=2147483647;case neg=>exact ZBi v s b c e d m xs f a g
   by_cases h:1<=e/\e<=2147483647;case neg=>exact KBe v s b c e d m xs f a g h
   exact YBc v s b c e d m xs f a g h
 by_cases p:k=8
 . subst p
   by_cases a:1<=v/\v<=2147483647;case neg=>exact ZBh v s b c e d m xs f a
   by_cases g:0<=s/\s<=2147483647;case neg=>exact KBd v s b c e d m xs f a g
   by_cases h:0<=e/\e<=2147483647;case neg=>exact XBi v s b c e d m xs f a g h
   by_cases i:0<=d/\d<=s;case neg=>exact ZBb v s b c e d m xs f a g h i
   exact QBk v s b c e d m xs f a g h i
 by_cases r:k=9
 . subst r
   by_cases a:1<=v/\v<=2147483647;case neg=>exact QBh v s b c e d m xs f a
   exact YBe v s b c e d m xs f a
 exact XBg k v s b c e d m xs f j l o p r
def Ki (k v s b c e d:Nat) (data:List UInt8):List UInt8:=([75,70,k].flatMap (le 1)++[v,s].flatMap (le 4)++[b,c].flatMap (le 1)++[e,d].flatMap (le 4))++data
def QK (k v s b c e d:Nat) (data:List UInt8):List UInt8:=Ki k v s b c e d data++le 4 (QY (Ki k v s b c e d data))
@[simp] theorem length_frBody (k v s b c e d:Nat) (a:List UInt8):(Ki k v s b c e d a).length=21+a.length:=by
 simp[Ki];omega
@[simp] theorem length_frBytes (k v s b c e d:Nat) (a:List UInt8):(QK k v s b c e d a).length=25+a.length:=by
 simp[QK];omega
theorem FrMay.bounds {v:Nat} (h:FrMay k v s b c e d xs):k<=9/\v<=2147483647/\s<=2147483647/\b<=63/\c<=64/\e<=2147483647/\d<=2147483647/\xs.length<=64:=by
 obtain⟨a,g | g | g | g | g⟩:=h
 . omega
 all_goals
  have:xs=[]:=by simp only[g]
  subst this;simp only[Au];omega
theorem ZBc {a:Nat} {bs:List UInt8} (g:kz w1 W0) (c:RowAt W0 w1.heap.size r v bs a) (h:k=1\/k=2\/k=4) (zs:List Nat) (i:∀ z∈zs,z<256 ^ k) (j:0<zs.length) (l:a+k*zs.length<=bs.length)
 (cs:Array Value) (d:cs.toList=YL zs) (m:Nat) (o:m=zs.length) :
 Calls prog 336 #[pq r,k,.slice (some W0.heap.size) m m] (W0.alloc (.cells cs 3)) fun e w'=>e=.returned (.bool true)/\RowAt w' w1.heap.size r v (laid bs a (zs.flatMap (le k))) (a+k*m)/\kz w1 w':=by
 subst o;have s:=g.alloc (.cells cs 3);have f:RowAt (W0.alloc (.cells cs 3)) w1.heap.size r v bs a:=c.kO (kq.alloc _)
 have t:Rd (W0.alloc (.cells cs 3)) (some W0.heap.size) zs.length (YL zs):=by
  have u:cs.toList.length=zs.length:=by rw[d,length_nats]
  have:=Rd.of_blk (n:=zs.length) (Blk.new W0 3 cs) (uq (Ap u.symm))
  rwa [d,AH sq] at this
 refine(YAb k f h zs.length zs t (fun p w=>?_) i j l).mono ?_
 . cases w
   intro b;rcases AM.1 b with e | b
   . exact absurd (show W0.heap.size=r from e) (CU c.blk.lt)
   exact absurd (own_mem c.own b).2 (Cc _)
 rintro e w' ⟨rfl,y,A⟩;exact⟨rfl,y,s.trans A (fun x b=>.inr (f.fresh x b))⟩
theorem Qd (N:Nat) (H a:List UInt8) (h:H.length+a.length<=N):laid (laid (List.replicate N 0) 0 H) H.length a=laid (List.replicate N 0) 0 (H++a):=by
 have:=QBK (List.replicate N (0:UInt8)) 0 H a (by simp;omega)
 rwa [A6] at this
theorem QL (N:Nat) (H:List UInt8) (h:H.length<=N):(laid (List.replicate N (0:UInt8)) 0 H).length=N:=by
 rw[YI _ _ _ (by simp;omega)];simp
theorem Zt (d:kz w1 W0) (f:RowAt W0 w1.heap.size r v (laid (List.replicate N 0) 0 H) H.length) (g:k=1\/k=2\/k=4) (zs:List Nat) (h:∀ z∈zs,z<256 ^ k) (i:0<zs.length) (a:H.length+k*zs.length<=N)
 (cs:Array Value) (j:cs.toList=YL zs) (m:Nat) (b:m=zs.length) :
 Calls prog 336 #[pq r,k,.slice (some W0.heap.size) m m] (W0.alloc (.cells cs 3)) fun e w'=>e=.returned (.bool true) /\
  RowAt w' w1.heap.size r v (laid (List.replicate N 0) 0 (H++zs.flatMap (le k))) (H++zs.flatMap (le k)).length/\kz w1 w':=by
 refine(ZBc d f g zs h i (by rw[QL _ _ Z];exact a) cs j m b).mono ?_;rintro e w' ⟨rfl,c,l⟩;refine⟨rfl,?_,l⟩;rw[Qd _ _ _ (by rw[XE];exact a),b] at c;rw[AE,XE];exact c
theorem XBj (f:kz w1 W0) (a:RowAt W0 w1.heap.size r v (laid (List.replicate N 0) 0 H) H.length) (b:Nat) (ys:List UInt8) (c:Rd W0 S m (bys ys)) (g:H.length+m<=N) :
 Calls prog 352 #[pq r,.slice S m b] W0 fun e w'=>e=.returned (.bool true) /\
  RowAt w' w1.heap.size r v (laid (List.replicate N 0) 0 (H++ys)) (H++ys).length/\kz w1 w':=by
 have h:ys.length=m:=uq c.1;refine(QBM a b ys c (by rw[QL _ _ Z];exact g)).mono ?_;rintro e w' ⟨rfl,d,i⟩;refine⟨rfl,?_,f.trans i (fun x j=>.inr (a.fresh x j))⟩;rw[Qd _ _ _ Z] at d;rw[AE,h];exact d
theorem QAk (k v s b c e d:Int) (m:Nat) (xs:List UInt8) (f:Rd w A n (bys xs)) (g:¬ FrMay k v s b c e d xs) :
 cr 260 #[frv k v s b c e d (.slice A n m)] w (.tuple #[zn,ii 1]):=by
 have a:=fun W (h:kz w W)=>YAZ k v s b c e d m xs (f.keep h);rw[AX g] at a;unfold frv at a ⊢;go_enter func260,ntmps260;go_wp2_with (apply (a _ (by exact kq.alloc _)).mono;clear a;rintro r w1 ⟨rfl,i⟩);go_ret2;exact⟨rfl,(kq.alloc _).tO i⟩
theorem KAI {v:Nat} (m:Nat) (M:Rd w A n (bys xs)) (R:FrMay k v s b c e d xs) :
 Calls prog 260 #[frv k v s b c e d (.slice A n m)] w fun r w'=>∃ u,r=.returned (.tuple #[u,zz])/\w'.ownsRow w.heap.size 5 1 u (25+n) (bys (QK k v s b c e d xs))/\kz w w':=by
 have J:=fun W (hk:kz w W)=>YAZ k v s b c e d m xs (M.keep hk);rw[AJ R] at J;unfold frv at J ⊢;obtain⟨b1,b2,b3,b4,b5,b6,b7,b8⟩:=R.bounds;have N:xs.length=n:=uq M.1;rw[N] at b8;have a3:=Blk.new w 211 #[ii k,ii v,ii s,ii b,ii c,ii e,ii d,.slice A n m];have T:=JB N;clear N;go_enter func260,ntmps260
 go_wp2_with (
  (refine(J _ (by exact kq.alloc _)).mono ?_)
  rintro r w1 ⟨rfl,O⟩;clear J;have F:=a3.kO O;obtain⟨l,o,p,t,y,z,B,C⟩:=XC F;have a9:=F.lt)
 have P:=YAM (25+n) Z w1;have U:((25+n:Nat):Int)=21+(n:Nat)+4:=Z;rw[U] at P;clear U
 go_wp2_with (
  (refine P.mono ?_)
  rintro r w2 ⟨g,u,rfl,V,h⟩;clear P;have a:=F.kO h;clear l o p t y z B C;obtain⟨l,o,p,t,y,z,B,C⟩:=XC a;have E:=a.lt)
 have i:RowAt w2 w1.heap.size g u (laid (List.replicate (25+n) 0) 0 []) ([]:List UInt8).length:=by rw[laid_nil];exact V
 clear V;have D:=Zt (k:=1) h i Z [75,70,k] (by simp;omega) sq (by simp[XE] <;> omega) #[ii 75,ii 70,ii k] rfl 3 rfl
 go_wp2_with (
  (refine D.mono ?_)
  clear D;rintro r H ⟨rfl,j,f⟩;clear i h a l o p t y z B C E;have a:=F.kO f;obtain⟨l,o,p,t,y,z,B,C⟩:=XC a;have E:=a.lt;have i:=j;have h:=f;clear j f)
 have D:=Zt (k:=4) h i Z [v,s] (by simp;omega) sq (by simp[XE] <;> omega) #[ii v,ii s] rfl 2 rfl
 go_wp2_with (
  (refine D.mono ?_)
  clear D;rintro r H ⟨rfl,j,f⟩;clear i h a l o p t y z B C E;have a:=F.kO f;obtain⟨l,o,p,t,y,z,B,C⟩:=XC a;have E:=a.lt;have i:=j;have h:=f;clear j f)
 have D:=Zt (k:=1) h i Z [b,c] (by simp;omega) sq (by simp[XE] <;> omega) #[ii b,ii c] rfl 2 rfl
 go_wp2_with (
  (refine D.mono ?_)
  clear D;rintro r H ⟨rfl,j,f⟩;clear i h a l o p t y z B C E;have a:=F.kO f;obtain⟨l,o,p,t,y,z,B,C⟩:=XC a;have E:=a.lt;have i:=j;have h:=f;clear j f)
 have D:=Zt (k:=4) h i Z [e,d] (by simp;omega) sq (by simp[XE] <;> omega) #[ii e,ii d] rfl 2 rfl
 go_wp2_with (
  (refine D.mono ?_)
  clear D;rintro r H ⟨rfl,j,f⟩;clear i h a l o p t y z B C E;have a:=F.kO f;obtain⟨l,o,p,t,y,z,B,C⟩:=XC a;have E:=a.lt;have i:=j;have h:=f;clear j f)
 have X:=XBj h i (S:=A) (m:=n) m xs ((M.keep ((kq.alloc _).tO O)).keep h) (by simp[XE] <;> omega)
 go_wp2_with (
  (refine X.mono ?_)
  clear X;rintro r H ⟨rfl,j,f⟩;clear i h a l o p t y z B C E;have K:=Jp j)
 have Y:(((([]++[75,70,k].flatMap (le 1))++[v,s].flatMap (le 4))++[b,c].flatMap (le 1))++[e,d].flatMap (le 4))++xs=Ki k v s b c e d xs:=rfl;rw[Y,QL _ _ (by rw[length_frBody];have:=JA T;omega)] at K;obtain⟨G,L⟩:=ex (Ki k v s b c e d xs);have a4:G.length=21+n:=by rw[L,length_frBody,JA T]
 rw[<- L] at K;have a5:=JB L;clear L Y
 go_wp2_with (
  (refine K.mono ?_)
  clear K;rintro r w4 ⟨u4,rfl,a0,a6⟩;have I:=Xw (v:=u4) (laid (List.replicate (25+n) 0) 0 G) (w:=w4) (by rw[QL _ _ Z];exact a0) (by rw[QL _ _ Z];omega) (by rw[QL _ _ Z];omega))
 rw[QL _ _ Z] at I;have a1:25+n-4=G.length:=Z;rw[a1,Qd _ _ _ (by rw[length_le];omega)] at I;have a2:(laid (List.replicate (25+n) 0) 0 G).take G.length=G:=by unfold laid;simp
 rw[a2,Kv _ _ (by simp;omega),JA a5] at I;clear a2 a1 a4
 go_wp2_with (
  (refine I.mono ?_)
  clear I;rintro r w5 ⟨rfl,a7,a8⟩)
 go_ret2;have Q:kz w H:=((kq.alloc _).tO O).tO f;refine⟨u4,rfl,ZC a7 Q.size,(Q.tO a6).trans a8 (fun x hx=>.inr ?_)⟩;exact AA Q.size (own_mem a0 hx).1
theorem YAN (h:kz w1 W0) (b:RefAt W0 w1.heap.size r v (laid (List.replicate N 0) 0 H) H.length) (i:k=1\/k=4) (zs:List Nat) (j:∀ z∈zs,z<256 ^ k) (l:0<zs.length) (c:H.length+k*zs.length<=N)
 (cs:Array Value) (d:cs.toList=YL zs) (m:Nat) (o:m=zs.length) :
 Calls prog 273 #[pq r,k,.slice (some W0.heap.size) m m] (W0.alloc (.cells cs 3)) fun e w'=>e=.returned (.bool true) /\
  RefAt w' w1.heap.size r v (laid (List.replicate N 0) 0 (H++zs.flatMap (le k))) (H++zs.flatMap (le k)).length/\kz w1 w':=by
 subst o;have s:=h.alloc (.cells cs 3);have f:RefAt (W0.alloc (.cells cs 3)) w1.heap.size r v _ _:=b.kO (kq.alloc _)
 have t:Rd (W0.alloc (.cells cs 3)) (some W0.heap.size) zs.length (YL zs):=by
  have u:cs.toList.length=zs.length:=by rw[d,length_nats]
  have:=Rd.of_blk (n:=zs.length) (Blk.new W0 3 cs) (uq (Ap u.symm))
  rwa [d,AH sq] at this
 refine(YBs k f i zs.length zs t (fun p w=>?_) j l (by rw[QL _ _ Z];exact c)).mono ?_
 . cases w
   intro a;rcases AM.1 a with e | a
   . exact absurd (show W0.heap.size=r from e) (CU b.blk.lt)
   exact absurd (own_mem b.own a).2 (Cc _)
 rintro e w' ⟨rfl,g,y⟩;refine⟨rfl,?_,s.trans y (fun x a=>.inr (f.fresh x a))⟩;rw[Qd _ _ _ (by rw[XE];exact c)] at g;rw[AE,XE];exact g
theorem JAg (f:kz w1 W0) (a:RefAt W0 w1.heap.size r v (laid (List.replicate N 0) 0 H) H.length) (b:Nat) (ys:List UInt8) (c:Rd W0 S m (bys ys)) (g:H.length+m<=N) :
 Calls prog 272 #[pq r,.slice S m b] W0 fun e w'=>e=.returned (.bool true) /\
  RefAt w' w1.heap.size r v (laid (List.replicate N 0) 0 (H++ys)) (H++ys).length/\kz w1 w':=by
 have h:ys.length=m:=uq c.1;refine(VBs a b ys c (by rw[QL _ _ Z];exact g)).mono ?_;rintro e w' ⟨rfl,d,i⟩;refine⟨rfl,?_,f.trans i (fun x j=>.inr (a.fresh x j))⟩;rw[Qd _ _ _ Z] at d;rw[AE,h];exact d
theorem Yo (k v s b c e d:Nat) (m:Nat) (xs:List UInt8) (V:Rd w A n (bys xs)) (al:k<=9) (hv:v<=2147483647) (hs:s<=2147483647) (hb:b<=63) (hc:c<=64) (he:e<=2147483647) (hd:d<=2147483647) (hn:n<=64)
 (P:∀ W,cr 270 #[frv k v s b c e d (.slice A n m)] W (.bool true)) :
 Calls prog 157 #[frv k v s b c e d (.slice A n m)] w fun r w'=>∃ u,r=.returned (.tuple #[u,zz])/\w'.ownsRow w.heap.size 5 1 u (25+n) (bys (QK k v s b c e d xs))/\kz w w':=by
 have am:IntKind.u8.wrap ((k:Nat):Int)=(k:Nat):=by unfold IntKind.wrap;simp[IntKind.bits,IntKind.signed];omega
 have X:xs.length=n:=uq V.1;have Y:=JB X;clear X;unfold frv at P ⊢;have ac:=Blk.new w 211 #[ii k,ii v,ii s,ii b,ii c,ii e,ii d,.slice A n m];go_enter func157,ntmps157
 go_wp2_with (
  (refine(P _).mono ?_)
  rintro r w1 ⟨rfl,Q⟩;clear P;have G:=ac.kO Q;obtain⟨l,o,p,t,y,z,B,C⟩:=XC G;have an:=G.lt)
 have R:=QAq (25+n) Z w1;have a0:((25+n:Nat):Int)=25+(n:Nat):=Z;rw[a0] at R;clear a0
 go_wp2_with (
  (refine R.mono ?_)
  rintro r J ⟨g,u,rfl,a1,h⟩;clear R;have a:=G.kO h;clear l o p t y z B C;obtain⟨l,o,p,t,y,z,B,C⟩:=XC a;have D:=a.lt)
 have j:RefAt J w1.heap.size g u (laid (List.replicate (25+n) 0) 0 []) ([]:List UInt8).length:=by rw[laid_nil];exact a1
 clear a1;have a2:=h.alloc (.cells #[.int .u8 75,.int .u8 70,.int .u8 k] 5)
 have a3:Rd (J.alloc (.cells #[.int .u8 75,.int .u8 70,.int .u8 k] 5)) (some J.heap.size) 3 (bys ([75,70,k].flatMap (le 1))):=by
  have:=Rd.of_blk (n:=3) (Blk.new J 5 #[.int .u8 75,.int .u8 70,.int .u8 k]) sq;rw[show bys ([75,70,k].flatMap (le 1))=[.int .u8 75,.int .u8 70,.int .u8 k] by simp[bys,by8,le];omega];exact this
 have H:=JAg a2 (j.kO (kq.alloc _)) 3 _ a3 (by simp;omega)
 go_wp2_with (
  (refine H.mono ?_)
  clear H a3 a2;rintro r L ⟨rfl,f,i⟩;clear j h a l o p t y z B C D;have a:=G.kO i;obtain⟨l,o,p,t,y,z,B,C⟩:=XC a;have D:=a.lt;have j:=f;have h:=i;clear f i)
 have F:=YAN (k:=4) h j Z [v,s] (by simp <;> omega) sq (by simp[XE] <;> omega) #[ii v,ii s] rfl 2 rfl
 go_wp2_with (
  (refine F.mono ?_)
  clear F;rintro r L ⟨rfl,f,i⟩;clear j h a l o p t y z B C D;have a:=G.kO i;obtain⟨l,o,p,t,y,z,B,C⟩:=XC a;have D:=a.lt;have j:=f;have h:=i;clear f i)
 have F:=YAN (k:=1) h j Z [b,c] (by simp <;> omega) sq (by simp[XE] <;> omega) #[ii b,ii c] rfl 2 rfl
 go_wp2_with (
  (refine F.mono ?_)
  clear F;rintro r L ⟨rfl,f,i⟩;clear j h a l o p t y z B C D;have a:=G.kO i;obtain⟨l,o,p,t,y,z,B,C⟩:=XC a;have D:=a.lt;have j:=f;have h:=i;clear f i)
 have F:=YAN (k:=4) h j Z [e,d] (by simp <;> omega) sq (by simp[XE] <;> omega) #[ii e,ii d] rfl 2 rfl
 go_wp2_with (
  (refine F.mono ?_)
  clear F;rintro r L ⟨rfl,f,i⟩;clear j h a l o p t y z B C D;have a:=G.kO i;obtain⟨l,o,p,t,y,z,B,C⟩:=XC a;have D:=a.lt;have j:=f;have h:=i;clear f i)
 have H:=JAg h j (S:=A) (m:=n) m xs ((V.keep ((kq.alloc _).tO Q)).keep h) (by simp[XE] <;> omega)
 go_wp2_with (
  (refine H.mono ?_)
  clear H;rintro r L ⟨rfl,f,i⟩;clear j h a l o p t y z B C D)
 have a4:(((([]++[75,70,k].flatMap (le 1))++[v,s].flatMap (le 4))++[b,c].flatMap (le 1))++[e,d].flatMap (le 4))++xs=Ki k v s b c e d xs:=rfl;rw[a4] at f;obtain⟨E,M⟩:=ex (Ki k v s b c e d xs);obtain⟨q,N⟩:=ex (21+n);have O:E.length=q:=by rw[M,length_frBody,JA Y,N]
 rw[<- M,O] at f;have ad:=JB M;clear M a4;obtain⟨g2,T,rfl,ae⟩:=QN f.own (by rw[QL _ _ Z];omega);have I:=QL (25+n) E Z;have a5:=(Rd.of_own f.own).take (k:=q) (by rw[I];omega);have a6:(laid (List.replicate (25+n) 0) 0 E).take q=E:=by rw[<- O];unfold laid;simp
 rw[Zb,a6] at a5;have U:=f.c0;have h1:=f.c1;rw[I] at U ae;have af:=KBs T E a5.drew Z;have a7:=QBt (k:=4) w1.heap.size g q (QY E) _ _ f.drew Z (Kn E) (by rw[I];omega) i.drew rfl;have ao:((q:Nat):Int)<=(T:Nat):=Z;have ag:=JB N;have ap:q<=85:=Z;clear N;have a8:=JB I;have ah:=JB O;clear I O a6;refine ZT (fun w'=>cl w' g (.slice (some g2) (25+n) T)/\cl w' (aq g 1) (q:Nat)) 11 [[0,1,2,3,4,5,6,7,8,9],[10]] ⟨U,h1⟩ ?_;simp only[PI];iterate 10 refine wG ?_
 refine YB rq (fun K h=>?_);go_wp2_with (apply mq af);refine h _ _ (⟨U,h1⟩) ?_
 try simp only[Act.put,PU]
 refine KB ?_
 go_wp2_with (
  (refine a7.mono ?_)
  clear a7;rintro r w4 ⟨rfl,a9,ai⟩;have aj:=a9.c0;rw[JA a8] at aj)
 go_ret2;have ak:=JA ah;have N:=JA ag;have aa:=a9.own;have ab:kz w w1:=(kq.alloc _).tO Q
 have e1:laid (laid (List.replicate (25+n) 0) 0 E) q (le 4 (QY E))=QK k v s b c e d xs:=by
  rw[<- ak,Qd _ _ _ (by rw[length_le];omega),Kv _ _ (by rw[AE,length_le,Ai];omega),JA ad];rfl
 rw[e1,JA a8,show (QK k v s b c e d xs).length=25+n by rw[length_frBytes,JA Y]] at aa;exact⟨_,rfl,ZC aa ab.size,ab.tO ai⟩
theorem Zx (v s b:Nat) (A:Option Addr) (m:Nat) (e:1<=v/\v<=2147483647) (f:1<=s/\s<=2147483647) (g:b<=63) (w:World) :
 cr 270 #[frv (1:Nat) v s b (0:Nat) (0:Nat) (0:Nat) (.slice A 64 m)] w (.bool true):=by
 have a:=fun W=>QG (v:Nat) 1 2147483647 true (by simp;omega) W;have c:=fun W=>QG (s:Nat) 1 2147483647 true (by simp;omega) W;have d:=fun W=>QG (b:Nat) 0 63 true (by simp;omega) W;unfold frv;go_enter func270,ntmps270
 go_wp2_with (first
  | (apply mq (a _);clear a)
  | (apply mq (c _);clear c)
  | (apply mq (d _);clear d))
 go_ret;exact⟨rfl,kq.alloc _⟩
theorem ZAE (v s b c:Nat) (A:Option Addr) (m:Nat) (g:1<=v/\v<=2147483647) (h:1<=s/\s<=2147483647) (i:b<=63) (j:1<=c/\b+c<=64) (w:World) :
 cr 270 #[frv (2:Nat) v s b c (0:Nat) (0:Nat) (.slice A 0 m)] w (.bool true):=by
 have a:=fun W=>QG (v:Nat) 1 2147483647 true (by simp;omega) W;have d:=fun W=>QG (s:Nat) 1 2147483647 true (by simp;omega) W;have e:=fun W=>QG (b:Nat) 0 63 true (by simp;omega) W;have f:=fun W=>QG (c:Nat) 1 (64-(b:Nat)) true (by simp;omega) W;unfold frv;go_enter func270,ntmps270
 go_wp2_with (first
  | (apply mq (a _);clear a)
  | (apply mq (d _);clear d)
  | (apply mq (e _);clear e)
  | (apply mq (f _);clear f))
 go_ret;exact⟨rfl,kq.alloc _⟩
theorem JAE (v s e:Nat) (A:Option Addr) (m:Nat) (f:1<=v/\v<=2147483647) (g:1<=s/\s<=2147483647) (h:1<=e/\e<=2147483647) (w:World) :
 cr 270 #[frv (3:Nat) v s (0:Nat) (0:Nat) e (0:Nat) (.slice A 0 m)] w (.bool true):=by
 have a:=fun W=>QG (v:Nat) 1 2147483647 true (by simp;omega) W;have b:=fun W=>QG (s:Nat) 1 2147483647 true (by simp;omega) W;have c:=fun W=>QG 0 0 63 true sq W;have d:=fun W=>QG (e:Nat) 1 2147483647 true (by simp;omega) W;unfold frv;go_enter func270,ntmps270
 go_wp2_with (first
  | (apply mq (a _);clear a)
  | (apply mq (b _);clear b)
  | (apply mq (c _);clear c)
  | (apply mq (d _);clear d))
 go_ret;exact⟨rfl,kq.alloc _⟩