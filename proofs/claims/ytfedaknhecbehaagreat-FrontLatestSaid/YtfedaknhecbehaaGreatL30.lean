/- Lemmas of the proof, with their conditions. -/
import Derived.Test.YtfedaknhecbehaaGreatL29
namespace Go.Proofs.YtfedaknhecbehaaGreat
open Tryz Go.RowKit Go.Shelf
variable {n k j:Nat} {xs:List Value} {A:Option Addr} {rg:PReg} {us:List (Nat×Nat)} {F:List Nat}
set_option linter.all false
set_option maxHeartbeats 4000000
set_option maxRecDepth 50000
structure RD (w W:World) (b rd r:Nat) (v:Value) (bs:List UInt8) (a:Nat) (cs:Array Value):Prop where
 row:RowAt W b r v bs a
 blk:Blk W w.heap.size 240 cs
 rdb:Blk W rd 485 #[pq r]
 kept:kz w W
 nb:w.heap.size<b
 far:rd∉r :: v.ownBlock.toList
 ne:rd≠w.heap.size
namespace RD
variable {w W W':World} {b rd r a a':Nat} {v:Value} {bs:List UInt8} {cs:Array Value}
theorem q (h:RD w W b rd r v bs a cs):cl W rd (pq r):=uq (h.rdb.cell 0)
theorem kO (h:RD w W b rd r v bs a cs) (c:kz W W'):RD w W' b rd r v bs a cs:=⟨h.row.kO c,h.blk.kO c,h.rdb.kO c,h.kept.tO c,h.nb,h.far,h.ne⟩
theorem drew (h:RD w W b rd r v bs a cs):RD w W.drew b rd r v bs a cs:=h.kO kq.drew
theorem one (h:RD w W b rd r v bs a cs) (e:RowAt W' b r v bs a') (c:Keep [r] W W'):RD w W' b rd r v bs a' cs:=by
 have f:=h.row.base;have g:=h.nb;refine⟨e,h.blk.keep c (by simp;omega),h.rdb.keep c (fun d=>h.far (by simp at d;simp[d])),h.kept.trans c iq,h.nb,h.far,h.ne⟩
theorem set (h:RD w W b rd r v bs a cs) (j:Nat) (x:Value):RD w (W.setCell (aq w.heap.size j) x) b rd r v bs a (cs.setIfInBounds j x):=by
 obtain⟨d,e,c⟩:=YV j x h.row h.nb h.blk;exact⟨d,e,h.rdb.keep c (uq h.ne),h.kept.trans c iq,h.nb,h.far,h.ne⟩
end RD
theorem ZBX {w:World} {base r a:Nat} {v:Value} {bs t:List UInt8} (l m:List (Nat×Nat)) (b:RowAt w base r v bs a) (c:bs=fields (l++(4,n) :: m)++t) (d:a=widths l) (f:n<=4294967295) :
 Calls prog 452 #[.agg #[pq r],ii 4] w fun e w'=>e=.returned n/\RowAt w' base r v bs (a+4)/\Keep [r] w w':=
 JAZ (k:=4) l m b c d Z Z
theorem YBq {w:World} {base r a:Nat} {v:Value} {bs t:List UInt8} (l m:List (Nat×Nat)) (b:RowAt w base r v bs a) (c:bs=fields (l++(1,n) :: m)++t) (d:a=widths l) (f:n<=255) :
 Calls prog 452 #[.agg #[pq r],ii 1] w fun e w'=>e=.returned n/\RowAt w' base r v bs (a+1)/\Keep [r] w w':=
 JAZ (k:=1) l m b c d Z Z
theorem ZBI (a:List (Nat×Nat)) (us:List (Nat×Nat)) (k:Nat) (b:k<us.length):a++us.flatMap Xi=(a++(us.take k).flatMap Xi)++(1,us[k].1) :: (4,us[k].2) :: (us.drop (k+1)).flatMap Xi:=by
 have h:us.flatMap Xi=(us.take k).flatMap Xi++(us.drop k).flatMap Xi:=by rw[<- Az,Bp]
 rw[h,BY b,At,BG];rfl
theorem JAc (a:List (Nat×Nat)) (us:List (Nat×Nat)) (k:Nat) (b:k<=us.length) (h:widths a=39):widths (a++(us.take k).flatMap Xi)=39+5*k:=by
 rw[QU,Qm,h,BE,CE b]
theorem RD.app {w W W':World} {b rd r a:Nat} {v V:Value} {bs:List UInt8} {cs:Array Value} (h:RD w W b rd r v bs a cs) (d:W.ownsRow w.heap.size 166 2 V n xs) (e:Keep V.ownBlock.toList W W'):RD w W' b rd r v bs a cs:=
 ⟨⟨h.row.blk.keep e (fun c=>own_blk_ne d h.row.blk (by decide) (uq c)),XB h.row.own e (fun x f c=>own_ne h.row.own d (by decide) f (uq c)),h.row.base,h.row.le,h.row.few⟩,
   h.blk.keep e (fun c=>own_blk_ne d h.blk (by decide) (uq c)),h.rdb.keep e (fun c=>own_blk_ne d h.rdb (by decide) (uq c)),h.kept.trans e (fun x f=>.inr (own_mem d f).1),h.nb,h.far,h.ne⟩
theorem XAC {b c:World} {base r a s:Nat} {v u:Value} {bs:List UInt8} {e:TypeId} {d:Nat} (h:RowAt b base r v bs a) (i:Keep [r] b c) (f:b.ownsRow d e s u n xs) (j:e≠400):c.ownsRow d e s u n xs:=
 XB f i (fun x k g=>by simp at g;subst g;exact own_blk_ne f h.blk j k)
theorem KAs {zs:List Nat} (h:∀ z∈zs,z=0) (n:Nat):YX zs n=0:=by
 induction n with
 | zero=>rfl
 | succ n ih=>
   have:zs.getD n 0=0:=by
    rw[AB];rcases BP n zs.length with a | a
    . rw[AC a];exact h _ (AQ a)
    rw[BF a];rfl
   simp only[YX,ih,this,Cg,BV]
theorem XAk (n lo hi:Int) (w:World) (h:n<lo):cq 396 #[ii n,ii lo,ii hi] w (.bool false):=by
 have a:¬ lo<=n:=Z;go_enter func396,ntmps396
 go_wp2
 go_ret;exact⟨rfl,rfl⟩
theorem ZAc (BA:Option Addr) (b c:Nat) (OA:Option Addr) (d e:Nat) (f:Option Addr) (g h:Nat) (w:World) :
 cr 394 #[.agg #[zz,zz,zz,zz,zz,zz,zz,zz,zz,zz,zz,.slice BA b c,.slice OA d e,.slice f g h]] w (.bool false):=by
 have a:=fun W=>XAk 0 1 2147483647 W Z;go_enter func394,ntmps394;go_wp2_with (apply mq (a _);clear a);go_ret;exact⟨rfl,kq.alloc _⟩
theorem YBF (BA:Option Addr) (c d:Nat) (OA:Option Addr) (f h:Nat) (i:Option Addr) (j k:Nat) (w:World) (g:Nat) :
 cr 340 #[pq g,.agg #[zz,zz,zz,zz,zz,zz,zz,zz,zz,zz,zz,.slice BA c d,.slice OA f h,.slice i j k]] w (.bool false):=by
 have l:=fun W=>ZAc BA c d OA f h i j k W;have a:=(Blk.new w 240 #[zz,zz,zz,zz,zz,zz,zz,zz,zz,zz,zz,.slice BA c d,.slice OA f h,.slice i j k]).drew;have m:=((Keep.refl [] w).alloc (.cells #[zz,zz,zz,zz,zz,zz,zz,zz,zz,zz,zz,.slice BA c d,.slice OA f h,.slice i j k] 240)).drew;go_enter func340,ntmps340;go_wp2_with fail;refine ZT (fun w'=>cl w' w.heap.size zz/\cl w' (aq w.heap.size 1) zz/\cl w' (aq w.heap.size 2) zz/\cl w' (aq w.heap.size 3) zz/\cl w' (aq w.heap.size 4) zz/\cl w' (aq w.heap.size 5) zz/\cl w' (aq w.heap.size 6) zz/\cl w' (aq w.heap.size 7) zz/\cl w' (aq w.heap.size 8) zz/\cl w' (aq w.heap.size 9) zz/\cl w' (aq w.heap.size 10) zz/\cl w' (aq w.heap.size 11) (.slice BA c d)/\cl w' (aq w.heap.size 12) (.slice OA f h)/\cl w' (aq w.heap.size 13) (.slice i j k)) 37 [[0,1,2,3],[4,5,6,7,8,9,10],[11,12,13,14,15,16,17],[18],[19,20,21,22,23,24,25],[26],[27,28,29,30,31,32,33,34],[35,36]] (ZD a) ?_;simp only[PI];iterate 4 refine wG ?_
 refine YB rq (fun K n=>?_);go_wp2_with (apply (l _).mono;rintro e o ⟨rfl,b⟩);refine n _ _ (ZD (a.kO b)) ?_;iterate 3 refine wG ?_
 iterate 3 (refine VQ rq ?_;simp only[Act.put,PU])
 refine XL rq (ZD (a.kO b)) ?_;simp only[Act.put,PU];iterate 1 (refine VQ rq ?_;simp only[Act.put,PU])
 iterate 2 refine wG ?_
 iterate 3 (refine VQ rq ?_;simp only[Act.put,PU])
 refine XL rq (ZD (a.kO b)) ?_;simp only[Act.put,PU];refine XL rq (ZD (a.kO b)) ?_;simp only[Act.put,PU];iterate 1 (refine VQ rq ?_;simp only[Act.put,PU])
 iterate 2 refine wG ?_
 iterate 3 (refine VQ rq ?_;simp only[Act.put,PU])
 refine XL rq (ZD (a.kO b)) ?_;simp only[Act.put,PU];refine XL rq (ZD (a.kO b)) ?_;simp only[Act.put,PU];iterate 1 (refine VQ rq ?_;simp only[Act.put,PU])
 iterate 2 refine wG ?_
 iterate 4 (refine VQ rq ?_;simp only[Act.put,PU])
 refine XL rq (ZD (a.kO b)) ?_;simp only[Act.put,PU];iterate 1 (refine VQ rq ?_;simp only[Act.put,PU])
 refine KB ?_;go_wp2_with fail;go_ret;exact⟨rfl,m.tO b⟩
theorem VBk (w:World) (g:Nat) (BA:Option Addr) (a b:Nat) (OA:Option Addr) (c d:Nat) (f:Option Addr) (h i:Nat) :
 cr 226 #[pq g,.agg #[zz,zz,zz,zz,zz,zz,zz,zz,zz,zz,zz,.slice BA a b,.slice OA c d,.slice f h i]] w (.tuple #[zn,ii 1]):=by
 have j:=fun W=>YBF BA a b OA c d f h i W g;go_enter func226,ntmps226
 go_wp2_with (
  (refine(j _).mono ?_)
  clear j;rintro e l ⟨rfl,k⟩)
 go_ret2;exact⟨rfl,(kq.alloc _).tO k⟩
theorem XAe {w:World} {g B:Nat} (hg:GeomAt w g B) (V X o view mode C D E F G I J L:Nat) (hv:o<=4294967295/\view<=4294967295/\mode<=255/\C<=4294967295/\D<=4294967295/\E<=4294967295/\F<=255/\G<=255/\I<=4294967295/\J<=4294967295/\L<=4294967295)
 (N O:List Nat) (us:List (Nat×Nat)) (br:∀ z∈N,z<=1) (bt:∀ z∈O,z<=1) (bu:N.length=pgs B) (bv:O.length=pgs B) (bw:us.length=8) (bx:∀ u∈us,u.1<=2/\u.2<=2147483647) (bs t:List UInt8) (bz:bs.length=128)
 (c2:bs=fields ([(1,V),(1,X),(4,o),(4,view),(1,mode),(4,C),(4,D),(4,E),(1,F),(1,G),(4,I),(4,J),(4,L),(1,YX N (pgs B)),(1,YX O (pgs B))]++us.flatMap Xi)++t)
 (au:Bool) (ak:(au=true/\∀ W BA OA a0 R S uc,kz w W->Rd W BA (pgs B) (YL N)->Rd W OA (pgs B) (YL O)->Rd W (some (aq a0 0)) (8*2) (us.flatMap Kk)->Calls prog 226 #[pq g,.agg #[ii o,ii view,ii mode,ii C,ii D,ii E,ii F,ii G,ii I,ii J,ii L,.slice BA (pgs B) R,.slice OA (pgs B) S,.slice (some (aq a0 0)) 8 uc]] W fun e w'=>∃ u,e=.returned (.tuple #[u,zz])/\w'.ownsRow W.heap.size 5 1 u 128 (bys bs)/\kz W w') \/
   (au=false/\∀ W BA OA a0 R S uc,kz w W->cr 226 #[pq g,.agg #[ii o,ii view,ii mode,ii C,ii D,ii E,ii F,ii G,ii I,ii J,ii L,.slice BA (pgs B) R,.slice OA (pgs B) S,.slice (some (aq a0 0)) 8 uc]] W (.tuple #[zn,ii 1]))) (c:Nat) (ha:Rd w A 128 (bys bs)) :
 Calls prog 438 #[pq g,.slice A 128 c] w fun e w'=>(au=true/\∃ BA R OA S a0 uc,e=.returned (.tuple #[.agg #[ii o,ii view,ii mode,ii C,ii D,ii E,ii F,ii G,ii I,ii J,ii L,.slice BA (pgs B) R,.slice OA (pgs B) S,.slice (some (aq a0 0)) 8 uc],zz]) /\
  w'.ownsRow w.heap.size 3 1 (.slice BA (pgs B) R) (pgs B) (YL N)/\w'.ownsRow w.heap.size 3 1 (.slice OA (pgs B) S) (pgs B) (YL O)/\w'.ownsRow w.heap.size 166 2 (.slice (some (aq a0 0)) 8 uc) 8 (us.flatMap Kk)/\kz w w')\/(au=false/\e=.returned (.tuple #[.agg #[zz,zz,zz,zz,zz,zz,zz,zz,zz,zz,zz,zn,zn,zn],ii 2])/\kz w w'):=by
 have dc:=(JD hg.pos hg.few).2;have c4:=fun W (a:kz w W)=>PagesG_is W g B (hg.kO a);have cp:=fun W (a:kz w W)=>ConfigG_is W g B (hg.kO a);obtain⟨b1,dd,de,df,dg,dh,di,dj,dk,dl,dm⟩:=hv;generalize pgs B=P at *;have c5:P<=8:=Z;have c6:=fun W (a:kz w W)=>XU c bs (ha.keep a) Z;have c7:=Blk.new w 240 #[zz,zz,zz,zz,zz,zz,zz,zz,zz,zz,zz,zn,zn,zn];have b8:kz w (w.alloc (.cells #[zz,zz,zz,zz,zz,zz,zz,zz,zz,zz,zz,zn,zn,zn] 240)):=kq.alloc _;have cq:=JB bz;have Y:=JB c2;have c8:=JB bw;have ct:=JB bx;have cu:=JB br;have cv:=JB bt;have cw:=JB bu;have cx:=JB bv;clear bz c2 bw bx br bt bu bv;go_enter func438,ntmps438
 go_wp2_with (
  (refine(c6 _ b8).mono ?_)
  clear c6;rintro e w2 ⟨r,v,rfl,b,b9⟩;have ba:=c7.kO b9;have cy:w.heap.size<(w.alloc (.cells #[zz,zz,zz,zz,zz,zz,zz,zz,zz,zz,zz,zn,zn,zn] 240)).heap.size:=sq;have c9:kz w w2:=b8.tO b9;clear c7 b9 b8)
 generalize (w.alloc (.cells #[zz,zz,zz,zz,zz,zz,zz,zz,zz,zz,zz,zn,zn,zn] 240)).heap.size=base at *;have cz:=b.fresh
 have ca:∀ x∈r :: v.ownBlock.toList,x<w2.heap.size:=fun x hx=>by
  rcases AM.1 hx with rfl | hx
  . exact b.blk.lt
  exact(own_mem b.own hx).2
 have a8:=(Keep.refl [] w2).alloc (.cells #[pq r] 485)
 have av:RD w (w2.alloc (.cells #[pq r] 485)) base w2.heap.size r v bs 0 #[zz,zz,zz,zz,zz,zz,zz,zz,zz,zz,zz,zn,zn,zn]:=
  ⟨b.kO a8,ba.kO a8,Blk.new w2 _ _,c9.tO a8,cy,fun hm=>by have:=ca _ hm;omega,fun e=>by have:=ba.lt;omega⟩
 generalize w2.heap.size=rd at *;have q:=av.q;have f:=ZP 2 av.row (by rw[JA cq];omega)
 go_wp2_with (
  (refine f.mono ?_)
  clear f;rintro e w3 ⟨ut,rfl,-,cb,cc⟩)
 have H:=av.one cb cc;clear q b ba c9 cz ca a8 av cb cc;have h:=H.drew;clear H;refine ZT (fun W=>cl W rd (pq r)) 5 [[0,2],[1,4],[3]] h.q ?_;simp only[PI];iterate 2 refine wG ?_
 refine YB rq (fun K l=>?_);have f:=ZBX (n:=o) [(1,V),(1,X)] ([(4,view),(1,mode),(4,C),(4,D),(4,E),(1,F),(1,G),(4,I),(4,J),(4,L),(1,YX N P),(1,YX O P)]++us.flatMap Xi) h.row (by simpa only[Ac,Ad] using JA Y) rfl Z;go_wp2_with (apply f.mono;rintro e w4 ⟨rfl,b,a⟩);have aw:=h.one b a;clear b a h;refine l _ _ (aw.q) ?_;iterate 1 refine wG ?_
 refine YB rq (fun K l=>?_);have f:=ZBX (n:=view) [(1,V),(1,X),(4,o)] ([(1,mode),(4,C),(4,D),(4,E),(1,F),(1,G),(4,I),(4,J),(4,L),(1,YX N P),(1,YX O P)]++us.flatMap Xi) aw.row (by simpa only[Ac,Ad] using JA Y) rfl Z;go_wp2_with (apply f.mono;rintro e w5 ⟨rfl,b,a⟩);have ad:=aw.one b a;clear b a aw;refine l _ _ (ad.q) ?_
 try simp only[Act.put,PU]
 refine KB ?_;have f0:=ad.blk.frozen 0;have f1:=ad.blk.frozen 1;obtain⟨x0,x1,x2,x3,x4,x5,x6,x7,x8,x9,a5,a1,a2,a3⟩:=ZD ad.blk;have U:=ad.blk.lt;have T:=ad.ne;have Q:=((ad.set 0 (.int .i64 o)).set 1 (.int .i64 view));simp only[PU] at Q;have q:=Q.q;have f:=YBq (n:=mode) [(1,V),(1,X),(4,o),(4,view)] ([(4,C),(4,D),(4,E),(1,F),(1,G),(4,I),(4,J),(4,L),(1,YX N P),(1,YX O P)]++us.flatMap Xi) Q.row (by simpa only[Ac,Ad] using JA Y) rfl Z;go_wp2_with (apply f.mono;clear f q f0 f1 U x0 x1 x2 x3 x4 x5 x6 x7 x8 x9 a5 a1 a2 a3;rintro e w6 ⟨rfl,b,a⟩;have H:=Q.one b a;have f2:=H.blk.frozen 2;have U:=H.blk.lt;have x2:=(ZD H.blk).2.2.1);have bb:=H.set 2 (.int .i64 mode);simp only[PU] at bb;clear H Q b a f2 x2 U T ad;have H:=bb;clear bb;have h:=H.drew;clear H;refine ZT (fun W=>cl W rd (pq r)) 7 [[0,2,4],[1,6],[3],[5]] h.q ?_;simp only[PI];iterate 3 refine wG ?_
 refine YB rq (fun K l=>?_);have f:=ZBX (n:=C) [(1,V),(1,X),(4,o),(4,view),(1,mode)] ([(4,D),(4,E),(1,F),(1,G),(4,I),(4,J),(4,L),(1,YX N P),(1,YX O P)]++us.flatMap Xi) h.row (by simpa only[Ac,Ad] using JA Y) rfl Z;go_wp2_with (apply f.mono;rintro e w7 ⟨rfl,b,a⟩);have ax:=h.one b a;clear b a h;refine l _ _ (ax.q) ?_;iterate 1 refine wG ?_
 refine YB rq (fun K l=>?_);have f:=ZBX (n:=D) [(1,V),(1,X),(4,o),(4,view),(1,mode),(4,C)] ([(4,E),(1,F),(1,G),(4,I),(4,J),(4,L),(1,YX N P),(1,YX O P)]++us.flatMap Xi) ax.row (by simpa only[Ac,Ad] using JA Y) rfl Z;go_wp2_with (apply f.mono;rintro e w8 ⟨rfl,b,a⟩);have ay:=ax.one b a;clear b a ax;refine l _ _ (ay.q) ?_
 try simp only[Act.put,PU]
 refine YB rq (fun K l=>?_);have f:=ZBX (n:=E) [(1,V),(1,X),(4,o),(4,view),(1,mode),(4,C),(4,D)] ([(1,F),(1,G),(4,I),(4,J),(4,L),(1,YX N P),(1,YX O P)]++us.flatMap Xi) ay.row (by simpa only[Ac,Ad] using JA Y) rfl Z;go_wp2_with (apply f.mono;rintro e w9 ⟨rfl,b,a⟩);have aa:=ay.one b a;clear b a ay;refine l _ _ (aa.q) ?_
 try simp only[Act.put,PU]
 refine KB ?_;have f3:=aa.blk.frozen 3;have f4:=aa.blk.frozen 4;have f5:=aa.blk.frozen 5;obtain⟨x0,x1,x2,x3,x4,x5,x6,x7,x8,x9,a5,a1,a2,a3⟩:=ZD aa.blk;have U:=aa.blk.lt;have T:=aa.ne;have Q:=(((aa.set 3 (.int .i64 C)).set 4 (.int .i64 D)).set 5 (.int .i64 E));simp only[PU] at Q;have q:=Q.q;go_wp2_with fail;have H:=Q;clear Q q U T aa x0 x1 x2 x3 x4 x5 x6 x7 x8 x9 a5 a1 a2 a3 f3 f4 f5;have h:=H.drew;clear H;refine ZT (fun W=>cl W rd (pq r)) 6 [[0,2],[1,4,5],[3]] h.q ?_;simp only[PI];iterate 2 refine wG ?_
 refine YB rq (fun K l=>?_);have f:=YBq (n:=F) [(1,V),(1,X),(4,o),(4,view),(1,mode),(4,C),(4,D),(4,E)] ([(1,G),(4,I),(4,J),(4,L),(1,YX N P),(1,YX O P)]++us.flatMap Xi) h.row (by simpa only[Ac,Ad] using JA Y) rfl Z;go_wp2_with (apply f.mono;rintro e dn ⟨rfl,b,a⟩);have az:=h.one b a;clear b a h;refine l _ _ (az.q) ?_;iterate 2 refine wG ?_
 refine YB rq (fun K l=>?_);have f:=YBq (n:=G) [(1,V),(1,X),(4,o),(4,view),(1,mode),(4,C),(4,D),(4,E),(1,F)] ([(4,I),(4,J),(4,L),(1,YX N P),(1,YX O P)]++us.flatMap Xi) az.row (by simpa only[Ac,Ad] using JA Y) rfl Z;go_wp2_with (apply f.mono;rintro e dp ⟨rfl,b,a⟩);have ae:=az.one b a;clear b a az;refine l _ _ (ae.q) ?_
 try simp only[Act.put,PU]
 refine KB ?_;have f6:=ae.blk.frozen 6;have f7:=ae.blk.frozen 7;obtain⟨x0,x1,x2,x3,x4,x5,x6,x7,x8,x9,a5,a1,a2,a3⟩:=ZD ae.blk;have U:=ae.blk.lt;have T:=ae.ne;have Q:=((ae.set 6 (.int .i64 F)).set 7 (.int .i64 G));simp only[PU] at Q;have q:=Q.q;go_wp2_with fail;have H:=Q;clear Q q U T ae x0 x1 x2 x3 x4 x5 x6 x7 x8 x9 a5 a1 a2 a3 f6 f7;have h:=H.drew;clear H;refine ZT (fun W=>cl W rd (pq r)) 8 [[0,2,4],[1,6,7],[3],[5]] h.q ?_;simp only[PI];iterate 3 refine wG ?_
 refine YB rq (fun K l=>?_);have f:=ZBX (n:=I) [(1,V),(1,X),(4,o),(4,view),(1,mode),(4,C),(4,D),(4,E),(1,F),(1,G)] ([(4,J),(4,L),(1,YX N P),(1,YX O P)]++us.flatMap Xi) h.row (by simpa only[Ac,Ad] using JA Y) rfl Z;go_wp2_with (apply f.mono;rintro e dq ⟨rfl,b,a⟩);have b0:=h.one b a;clear b a h;refine l _ _ (b0.q) ?_;iterate 2 refine wG ?_
 refine YB rq (fun K l=>?_);have f:=ZBX (n:=J) [(1,V),(1,X),(4,o),(4,view),(1,mode),(4,C),(4,D),(4,E),(1,F),(1,G),(4,I)] ([(4,L),(1,YX N P),(1,YX O P)]++us.flatMap Xi) b0.row (by simpa only[Ac,Ad] using JA Y) rfl Z;go_wp2_with (apply f.mono;rintro e dr ⟨rfl,b,a⟩);have b2:=b0.one b a;clear b a b0;refine l _ _ (b2.q) ?_
 try simp only[Act.put,PU]
 refine YB rq (fun K l=>?_);have f:=ZBX (n:=L) [(1,V),(1,X),(4,o),(4,view),(1,mode),(4,C),(4,D),(4,E),(1,F),(1,G),(4,I),(4,J)] ([(1,YX N P),(1,YX O P)]++us.flatMap Xi) b2.row (by simpa only[Ac,Ad] using JA Y) rfl Z;go_wp2_with (apply f.mono;rintro e ds ⟨rfl,b,a⟩);have ab:=b2.one b a;clear b a b2;refine l _ _ (ab.q) ?_
 try simp only[Act.put,PU]
 refine KB ?_;have f8:=ab.blk.frozen 8;have f9:=ab.blk.frozen 9;have bc:=ab.blk.frozen 10;obtain⟨x0,x1,x2,x3,x4,x5,x6,x7,x8,x9,a5,a1,a2,a3⟩:=ZD ab.blk;have U:=ab.blk.lt;have T:=ab.ne;have Q:=(((ab.set 8 (.int .i64 I)).set 9 (.int .i64 J)).set 10 (.int .i64 L));simp only[PU] at Q;have q:=Q.q;go_wp2_with fail;have H:=Q;clear Q q U T ab x0 x1 x2 x3 x4 x5 x6 x7 x8 x9 a5 a1 a2 a3 f8 f9 bc;have h:=H.drew;clear H;refine ZT (fun W=>cl W rd (pq r)) 9 [[0,1,4,5],[2],[3,8],[6],[7]] h.q ?_;simp only[PI];iterate 4 refine wG ?_
 refine YB rq (fun K l=>?_);go_wp2_with (apply (c4 _ h.kept).mono;rintro e dt ⟨rfl,a⟩);have al:=h.kO a;clear a h;refine l _ _ (al.q) ?_
 try simp only[Act.put,PU]
 refine YB rq (fun K l=>?_);have f:=YAR (p:=P) N [(1,V),(1,X),(4,o),(4,view),(1,mode),(4,C),(4,D),(4,E),(1,F),(1,G),(4,I),(4,J),(4,L)] ([(1,YX O P)]++us.flatMap Xi) al.row (by simpa only[Ac,Ad] using JA Y) rfl c5 (JA cu) (JA cw);go_wp2_with (apply f.mono;rintro e du ⟨u1,rfl,m,b,a⟩;obtain⟨BA,R,rfl,_⟩:=ZB m);have b3:=al.one b a;replace m:=ZC m al.kept.size;clear b a al;refine l _ _ (b3.q) ?_;iterate 1 refine wG ?_
 refine YB rq (fun K l=>?_);go_wp2_with (apply (c4 _ b3.kept).mono;rintro e dv ⟨rfl,a⟩);have aj:=b3.kO a;replace m:=QB m a;clear a b3;refine l _ _ (aj.q) ?_
 try simp only[Act.put,PU]
 refine YB rq (fun K l=>?_);have f:=YAR (p:=P) O [(1,V),(1,X),(4,o),(4,view),(1,mode),(4,C),(4,D),(4,E),(1,F),(1,G),(4,I),(4,J),(4,L),(1,YX N P)] (us.flatMap Xi) aj.row (by simpa only[Ac,Ad] using JA Y) rfl c5 (JA cv) (JA cx);go_wp2_with (apply f.mono;rintro e dw ⟨u2,rfl,M,b,a⟩;obtain⟨OA,S,rfl,_⟩:=ZB M);have a6:=aj.one b a;replace m:=XAC aj.row a m (by decide);replace M:=ZC M aj.kept.size;clear b a aj;refine l _ _ (a6.q) ?_
 try simp only[Act.put,PU]
 refine KB ?_;have bd:=a6.blk.frozen 11;have bf:=a6.blk.frozen 12;have U:=a6.blk.lt;have T:=a6.ne;have a1:=(ZD a6.blk).2.2.2.2.2.2.2.2.2.2.2.1;have a2:=(ZD a6.blk).2.2.2.2.2.2.2.2.2.2.2.2.1
 have am:∀ (x:Value) (W:World) (j:Nat) (a4:Value) n zs cs,RD w W base rd r v bs (0+2+4+4+1+4+4+4+1+1+4+4+4+1+1) cs->W.ownsRow w.heap.size 3 1 a4 n zs->(W.setCell (aq w.heap.size j) x).ownsRow w.heap.size 3 1 a4 n zs:=fun x W j a4 n zs cs d0 a7=>
  XB a7 ((Keep.refl [w.heap.size] W).setCell (p:=⟨w.heap.size,j,none⟩) (.inl sq) x) (fun y hy hm=>by simp at hm;subst hm;exact own_blk_ne a7 d0.blk (by decide) hy)
 have ag:=a6.set 11 (.slice BA P R);have H:=ag.set 12 (.slice OA P S);replace m:=am (.slice OA P S) _ 12 _ _ _ _ ag (am (.slice BA P R) _ 11 _ _ _ _ a6 m);replace M:=am (.slice OA P S) _ 12 _ _ _ _ ag (am (.slice BA P R) _ 11 _ _ _ _ a6 M);go_wp2_with fail;clear bd bf a1 a2 U T a6 ag am;simp only[PU] at H

 have d1:=cp _ H.kept;have d2:=fun W=>QE (P:=prog) underlying28 1 rfl isAgg3 #[ii B,ii 8,ii 24] rfl W;go_wp2_with (apply d1.mono;rintro e dx ⟨rfl,a⟩);have ag:=H.kO a;replace m:=QB m a;replace M:=QB M a;clear H a d2;obtain⟨ah,bg⟩:∃ ah:List (Nat×Nat),ah=[(1,V),(1,X),(4,o),(4,view),(1,mode),(4,C),(4,D),(4,E),(1,F),(1,G),(4,I),(4,J),(4,L),(1,YX N P),(1,YX O P)]:=⟨_,rfl⟩;have d3:widths ah=39:=by rw[bg];rfl
 have d4:Hid (bs=fields (ah++us.flatMap Xi)++t):=JB (by rw[bg];exact JA Y);clear bg Y;go_loopw [69] (fun i wr=>∃ (k:Nat) (a4:Value),k<=8/\i=.int .i64 k/\wr.ownsRow w.heap.size 166 2 a4 k ((us.take k).flatMap Kk)/\RD w wr base rd r v bs (39+5*k) #[ii o,ii view,ii mode,ii C,ii D,ii E,ii F,ii G,ii I,ii J,ii L,.slice BA P R,.slice OA P S,a4]/\wr.ownsRow w.heap.size 3 1 (.slice BA P R) P (YL N)/\wr.ownsRow w.heap.size 3 1 (.slice OA P S) P (YL O)) (fun i _=>8-(intOf i).toNat)
 case atStart=>exact⟨0,_,Z,rfl,Ab _ _ _ _,ag,m,M⟩
 clear ag m M;obtain⟨k,a4,a,rfl,a7,H,m,M⟩:=hrel;obtain⟨cd,vc,rfl,_⟩:=ZB a7;by_cases U:k<8
 . have dy:((k:Nat):Int)<8:=Z
   have bh:k<us.length:=by rw[JA c8];exact U
   obtain⟨dz,e0⟩:=JA ct _ (AQ bh);have ce:=ZBI ah us k bh;have bi:=JAc ah us k Z d3;have d5:Hid ((us.take (k+1)).flatMap Kk=(us.take k).flatMap Kk++[.int .i64 (us[k].1:Nat),.int .i64 (us[k].2:Nat)]):=JB (by rw[AO bh,Az];simp[Kk]);generalize us[k].1=st at *;generalize us[k].2=sp at *;generalize ah++(us.take k).flatMap Xi=L1 at *;generalize (us.drop (k+1)).flatMap Xi=L2 at *;have bj:bs=fields (L1++(1,st) :: (4,sp) :: L2)++t:=by rw[<- ce];exact JA d4
   have cf:bs=fields ((L1++[(1,st)])++(4,sp) :: L2)++t:=by rw[BG];exact bj
   have cg:widths (L1++[(1,st)])=39+5*k+1:=by rw[QU,bi];rfl
   have d6:=JB bj;have d7:=JB cf;have d8:=JB bi;have d9:=JB cg;clear bj cf ce bi cg;have h:=H.drew;have a9:=QB a7 (Keep.refl [] wr).drew;replace m:=QB m (Keep.refl [] wr).drew;replace M:=QB M (Keep.refl [] wr).drew;clear H a7;go_wp2_with fail;refine ZT (fun W=>cl W rd (pq r)/\cl W (aq w.heap.size 13) (.slice cd k vc)) 8 [[0,1,2,4],[3],[5,6],[7]] ⟨h.q,(ZD h.blk).2.2.2.2.2.2.2.2.2.2.2.2.2⟩ ?_;simp only[PI];iterate 4 refine wG ?_
   refine YB rq (fun K l=>?_);have f:=YBq (n:=st) L1 ((4,sp) :: L2) h.row (JA d6) (JA d8).symm Z;go_wp2_with (apply f.mono;rintro e w4 ⟨rfl,b,an⟩);have af:=h.one b an;replace a9:=XAC h.row an a9 (by decide);replace m:=XAC h.row an m (by decide);replace M:=XAC h.row an M (by decide);clear b an h;refine l _ _ (⟨af.q,(ZD af.blk).2.2.2.2.2.2.2.2.2.2.2.2.2⟩) ?_
   try simp only[Act.put,PU]
   refine YB rq (fun K l=>?_);have f:=ZBX (n:=sp) (L1++[(1,st)]) L2 af.row (JA d7) (JA d9).symm Z;go_wp2_with (apply f.mono;rintro e w5 ⟨rfl,b,ao⟩);have b4:=af.one b ao;replace a9:=XAC af.row ao a9 (by decide);replace m:=XAC af.row ao m (by decide);replace M:=XAC af.row ao M (by decide);clear b ao af;refine l _ _ (⟨b4.q,(ZD b4.blk).2.2.2.2.2.2.2.2.2.2.2.2.2⟩) ?_;iterate 1 refine wG ?_
   refine YB rq (fun K l=>?_);go_wp2_with fail;have a8:=(Keep.refl [] w5).alloc (.cells #[st,sp] 166);have da:=Blk.new w5 166 #[st,sp];have b5:=b4.kO a8;replace a9:=QB a9 a8;replace m:=QB m a8;replace M:=QB M a8;clear b4 a8;generalize w5.alloc (.cells #[st,sp] 166)=w6 at *;generalize w5.heap.size=N6 at *;refine l _ _ (⟨b5.q,(ZD b5.blk).2.2.2.2.2.2.2.2.2.2.2.2.2⟩) ?_
   try simp only[Act.put,PU]
   refine KB ?_
   go_wp2_with (at_builtin
                refine elemUse.wp_app rfl _ _ rfl w.heap.size _ k ((us.take k).flatMap Kk) rfl a9 ⟨N6,0,none⟩ 1 1 [.int .i64 (st:Nat),.int .i64 (sp:Nat)] rfl (Rd.of_blk (n:=2) da sq) (by simp[Value.oneCell']) Z Z b5.kept.size ?_;intro e1 w7 bk ch _ _;have ap:=b5.app a9 ch;have ci:=ap.blk.frozen 13;have a3:=(ZD ap.blk).2.2.2.2.2.2.2.2.2.2.2.2.2;have e2:=ap.blk.lt;obtain⟨cj,vd,rfl,_⟩:=ZB bk)
   have ck:=ap.set 13 (.slice cj (k+1) vd);simp only[PU] at ck;have bl:Keep [w.heap.size] w7 (w7.setCell (aq w.heap.size 13) (.slice cj (k+1) vd)):=kq.sc w.heap.size 13;have T:∀ {e:TypeId} {n s:Nat} {a4:Value} {xs:List Value},w7.ownsRow w.heap.size e s a4 n xs->e≠240->∀ x,a4.ownBlock=some x->x∉[w.heap.size]:=fun hq he x hx hm=>by simp at hm;subst hm;exact own_blk_ne hq ap.blk he hx
   have cm:Keep (Value.slice cd k vc).ownBlock.toList w6 w7:=ch;have cn:=XB m cm (fun x hx hm=>own_ne m a9 (by decide) hx (uq hm));have co:=XB M cm (fun x hx hm=>own_ne M a9 (by decide) hx (uq hm));go_roundw
   case rel=>
    exact⟨k+1,_,Z,by go_num,by rw[JA d5];exact XB bk bl (T bk (by decide)),ck,XB cn bl (T cn (by decide)),XB co bl (T co (by decide))⟩
   case measure=>simp[intOf];omega
 obtain rfl:k=8:=Z;rw[AH (by have:=JA c8;omega)] at a7;obtain⟨a0,uc,h1,e3⟩:=JE a7 Z;injection h1 with h1 _ h2;subst h1 h2;have x:=H.blk;obtain⟨x0,x1,x2,x3,x4,x5,x6,x7,x8,x9,a5,a1,a2,a3⟩:=ZD x;have U:=x.lt;rcases ak with⟨bm,ak⟩ | ⟨bm,ak⟩
 . have ar:=ak _ BA OA a0 R S vc H.kept (Rd.of_own m) (Rd.of_own M) (Rd.of_ownN a7)
   go_wp2_with (
    apply ar.mono;clear ar x0 x1 x2 x3 x4 x5 x6 x7 x8 x9 a5 a1 a2 a3;rintro e b6 ⟨u,rfl,hu,ac⟩;obtain⟨e4,zc,rfl,_⟩:=ZB hu;have d:=H.kO ac;have db:=JJ zc c bs bs (Rd.of_own hu) (ha.keep d.kept);obtain⟨x0,x1,x2,x3,x4,x5,x6,x7,x8,x9,a5,a1,a2,a3⟩:=ZD d.blk;have f0:=d.blk.frozen 0;have f1:=d.blk.frozen 1;have f2:=d.blk.frozen 2;have f3:=d.blk.frozen 3;have f4:=d.blk.frozen 4;have f5:=d.blk.frozen 5;have f6:=d.blk.frozen 6;have f7:=d.blk.frozen 7;have f8:=d.blk.frozen 8;have f9:=d.blk.frozen 9;have bc:=d.blk.frozen 10;have bd:=d.blk.frozen 11;have bf:=d.blk.frozen 12;have ci:=d.blk.frozen 13;have U:=d.blk.lt)
   go_wp2_with (apply mq db);have ai:=((((((((((((((d.set 0 (.int .i64 o)).set 1 (.int .i64 view)).set 2 (.int .i64 mode)).set 3 (.int .i64 C)).set 4 (.int .i64 D)).set 5 (.int .i64 E)).set 6 (.int .i64 F)).set 7 (.int .i64 G)).set 8 (.int .i64 I)).set 9 (.int .i64 J)).set 10 (.int .i64 L)).set 11 (.slice BA P R)).set 12 (.slice OA P S)).set 13 (.slice (some (aq a0 0)) 8 vc));have b7:=(((((((((((((((Keep.refl [w.heap.size] b6).setCell (p:=⟨w.heap.size,0,none⟩) (.inl sq) (.int .i64 o)).setCell (p:=⟨w.heap.size,1,none⟩) (.inl sq) (.int .i64 view)).setCell (p:=⟨w.heap.size,2,none⟩) (.inl sq) (.int .i64 mode)).setCell (p:=⟨w.heap.size,3,none⟩) (.inl sq) (.int .i64 C)).setCell (p:=⟨w.heap.size,4,none⟩) (.inl sq) (.int .i64 D)).setCell (p:=⟨w.heap.size,5,none⟩) (.inl sq) (.int .i64 E)).setCell (p:=⟨w.heap.size,6,none⟩) (.inl sq) (.int .i64 F)).setCell (p:=⟨w.heap.size,7,none⟩) (.inl sq) (.int .i64 G)).setCell (p:=⟨w.heap.size,8,none⟩) (.inl sq) (.int .i64 I)).setCell (p:=⟨w.heap.size,9,none⟩) (.inl sq) (.int .i64 J)).setCell (p:=⟨w.heap.size,10,none⟩) (.inl sq) (.int .i64 L)).setCell (p:=⟨w.heap.size,11,none⟩) (.inl sq) (.slice BA P R)).setCell (p:=⟨w.heap.size,12,none⟩) (.inl sq) (.slice OA P S)).setCell (p:=⟨w.heap.size,13,none⟩) (.inl sq) (.slice (some (aq a0 0)) 8 vc));simp only[PU] at ai;obtain⟨y0,y1,y2,y3,y4,y5,y6,y7,y8,y9,bn,bo,bp,bq⟩:=ZD ai.blk;refine Af (v:=.tuple #[.agg #[ii o,ii view,ii mode,ii C,ii D,ii E,ii F,ii G,ii I,ii J,ii L,.slice BA P R,.slice OA P S,.slice (some (aq a0 0)) 8 vc],zz]) (by simp[results,results438,go_sem,y0,y1,y2,y3,y4,y5,y6,y7,y8,y9,bn,bo,bp,bq]) rfl ?_;have T:∀ {e:TypeId} {n s:Nat} {a4:Value} {xs:List Value},b6.ownsRow w.heap.size e s a4 n xs->e≠240->∀ x,a4.ownBlock=some x->x∉[w.heap.size]:=fun hq he x hx hm=>by simp at hm;subst hm;exact own_blk_ne hq d.blk he hx
   exact .inl ⟨bm,BA,R,OA,S,a0,vc,rfl,XB (QB m ac) b7 (T (QB m ac) (by decide)),XB (QB M ac) b7 (T (QB M ac) (by decide)),XB (QB a7 ac) b7 (T (QB a7 ac) (by decide)),ai.kept⟩
 have ar:=ak _ BA OA a0 R S vc H.kept
 go_wp2_with (
  apply ar.mono;clear ar x0 x1 x2 x3 x4 x5 x6 x7 x8 x9 a5 a1 a2 a3;rintro e b6 ⟨rfl,ac⟩;have d:=H.kO ac;obtain⟨x0,x1,x2,x3,x4,x5,x6,x7,x8,x9,a5,a1,a2,a3⟩:=ZD d.blk;have f0:=d.blk.frozen 0;have f1:=d.blk.frozen 1;have f2:=d.blk.frozen 2;have f3:=d.blk.frozen 3;have f4:=d.blk.frozen 4;have f5:=d.blk.frozen 5;have f6:=d.blk.frozen 6;have f7:=d.blk.frozen 7;have f8:=d.blk.frozen 8;have f9:=d.blk.frozen 9;have bc:=d.blk.frozen 10;have bd:=d.blk.frozen 11;have bf:=d.blk.frozen 12;have ci:=d.blk.frozen 13;have U:=d.blk.lt)
 have ai:=((((((((((((((d.set 0 (.int .i64 0)).set 1 (.int .i64 0)).set 2 (.int .i64 0)).set 3 (.int .i64 0)).set 4 (.int .i64 0)).set 5 (.int .i64 0)).set 6 (.int .i64 0)).set 7 (.int .i64 0)).set 8 (.int .i64 0)).set 9 (.int .i64 0)).set 10 (.int .i64 0)).set 11 (.slice none 0 0)).set 12 (.slice none 0 0)).set 13 (.slice none 0 0));have b7:=(((((((((((((((Keep.refl [w.heap.size] b6).setCell (p:=⟨w.heap.size,0,none⟩) (.inl sq) (.int .i64 0)).setCell (p:=⟨w.heap.size,1,none⟩) (.inl sq) (.int .i64 0)).setCell (p:=⟨w.heap.size,2,none⟩) (.inl sq) (.int .i64 0)).setCell (p:=⟨w.heap.size,3,none⟩) (.inl sq) (.int .i64 0)).setCell (p:=⟨w.heap.size,4,none⟩) (.inl sq) (.int .i64 0)).setCell (p:=⟨w.heap.size,5,none⟩) (.inl sq) (.int .i64 0)).setCell (p:=⟨w.heap.size,6,none⟩) (.inl sq) (.int .i64 0)).setCell (p:=⟨w.heap.size,7,none⟩) (.inl sq) (.int .i64 0)).setCell (p:=⟨w.heap.size,8,none⟩) (.inl sq) (.int .i64 0)).setCell (p:=⟨w.heap.size,9,none⟩) (.inl sq) (.int .i64 0)).setCell (p:=⟨w.heap.size,10,none⟩) (.inl sq) (.int .i64 0)).setCell (p:=⟨w.heap.size,11,none⟩) (.inl sq) (.slice none 0 0)).setCell (p:=⟨w.heap.size,12,none⟩) (.inl sq) (.slice none 0 0)).setCell (p:=⟨w.heap.size,13,none⟩) (.inl sq) (.slice none 0 0));simp only[PU] at ai;obtain⟨y0,y1,y2,y3,y4,y5,y6,y7,y8,y9,bn,bo,bp,bq⟩:=ZD ai.blk;refine Af (v:=.tuple #[.agg #[zz,zz,zz,zz,zz,zz,zz,zz,zz,zz,zz,zn,zn,zn],ii 2]) (by simp[results,results438,go_sem,y0,y1,y2,y3,y4,y5,y6,y7,y8,y9,bn,bo,bp,bq]) rfl ?_;exact .inr ⟨bm,rfl,ai.kept⟩
theorem YAk {w:World} {g B:Nat} (b:GeomAt w g B) (c:Nat) (d:Rd w A 128 (bys (List.replicate 128 0))) :
 cr 438 #[pq g,.slice A 128 c] w (.tuple #[.agg #[zz,zz,zz,zz,zz,zz,zz,zz,zz,zz,zz,zn,zn,zn],ii 2]):=by
 have f:=fun W BA OA i j k l (_:kz w W)=>VBk W g BA (pgs B) j OA (pgs B) k (some (aq i 0)) 8 l;have a:∀ z∈List.replicate (pgs B) 0,z=0:=fun z a=>AV a;refine(XAe b 0 0 0 0 0 0 0 0 0 0 0 0 0 Z (List.replicate (pgs B) 0) (List.replicate (pgs B) 0) (List.replicate 8 (0,0)) (fun z h=>by rw[a z h];omega) (fun z h=>by rw[a z h];omega) sq sq rfl (fun u m=>by rw[AV m];omega) (List.replicate 128 0) (List.replicate 49 0) rfl (by rw[KAs a];rfl) false (.inr ⟨rfl,f⟩) c d).mono ?_;rintro e w' (⟨h,_⟩ | ⟨_,h⟩)
 . cases h
 exact h
theorem XBe {w:World} {g B:Nat} (d:GeomAt w g B) (h:rg.May) (a b:List Nat) (m:∀ z∈a,z<=1) (n:∀ z∈b,z<=1) (o:a.length=pgs B) (p:b.length=pgs B) (l:VT us rg.pos.seg) (c:Nat) (r:Rd w A 128 (bys (VBm rg (pgs B) a b us))) :
 Calls prog 438 #[pq g,.slice A 128 c] w fun e w'=>∃ BA f OA i j k,e=.returned (.tuple #[.agg (rg.cs (.slice BA (pgs B) f) (.slice OA (pgs B) i) (.slice (some (aq j 0)) 8 k)).toArray,zz]) /\
  w'.ownsRow w.heap.size 3 1 (.slice BA (pgs B) f) (pgs B) (YL a)/\w'.ownsRow w.heap.size 3 1 (.slice OA (pgs B) i) (pgs B) (YL b)/\w'.ownsRow w.heap.size 166 2 (.slice (some (aq j 0)) 8 k) 8 (us.flatMap Kk)/\kz w w':=by
 have T:=(JD d.pos d.few).2;have s:=fun W BA OA j f i k (v:kz w W) y C D=>KAX (d.kO v) h (BA:=BA) f a (OA:=OA) i b y C m n j k D l;have E:=Je rg (pgs B) a b l.1;obtain⟨t,F⟩:∃ t,VBm rg (pgs B) a b us=fields (VBn rg (pgs B) a b us)++t:=Ja 128 _;obtain⟨G,H,-⟩:=l;have I:∀ u∈us,u.1<=2/\u.2<=2147483647:=fun u J=>by have:=H u J;omega
 obtain⟨b1,U,V,X,Y,b6,b7,b8,b9,a0,a1⟩:=h;obtain⟨K,view,mode,L,M,N,O,P,Q,R,S⟩:=rg;simp only at *;apply (XAe d 75 67 K view mode L M N O P Q R S Z a b us m n o p G I _ t E F true (.inl ⟨rfl,s⟩) c r).mono;rintro e w' (⟨_,h⟩ | ⟨h,_⟩)
 . exact h
 cases h
theorem JAF {w:World} {g B:Nat} (T:GeomAt w g B) (h:rg.May) (F G:List Nat) (a4:∀ z∈F,z<=1) (a5:∀ z∈G,z<=1) (a6:F.length=pgs B) (a7:G.length=pgs B) (a8:VT us rg.pos.seg) {A':Option Addr} (c U:Nat) (ha:Rd w A 128 (bys (VBm rg (pgs B) F G us))) (hb:Rd w A' 128 (bys (List.replicate 128 0))) :
 Calls prog 402 #[pq g,.slice A 128 c,.slice A' 128 U] w fun e w'=>∃ BA d OA f i j,e=.returned (.tuple #[.agg (rg.cs (.slice BA (pgs B) d) (.slice OA (pgs B) f) (.slice (some (aq i 0)) 8 j)).toArray,zz,zz]) /\
  w'.ownsRow w.heap.size 3 1 (.slice BA (pgs B) d) (pgs B) (YL F)/\w'.ownsRow w.heap.size 3 1 (.slice OA (pgs B) f) (pgs B) (YL G)/\w'.ownsRow w.heap.size 166 2 (.slice (some (aq i 0)) 8 j) 8 (us.flatMap Kk)/\kz w w':=by
 have V:=fun W (H:kz w W)=>XBe (T.kO H) h F G a4 a5 a6 a7 a8 c (ha.keep H);have X:=fun W (H:kz w W)=>YAk (T.kO H) U (hb.keep H);obtain⟨k,view,mode,l,m,o,r,t,u,y,C⟩:=rg;simp only[PReg.cs,PPos.cs,Ac,Ad] at *;generalize pgs B=P at *;have Y:=Blk.new w 240 #[zz,zz,zz,zz,zz,zz,zz,zz,zz,zz,zz,zn,zn,zn];have D:kz w (w.alloc (.cells #[zz,zz,zz,zz,zz,zz,zz,zz,zz,zz,zz,zn,zn,zn] 240)):=kq.alloc _;have a0:=V _ D;clear V;go_enter func402,ntmps402
 go_wp2_with (
  refine a0.mono ?_;clear a0;rintro e I ⟨BA,d,OA,f,i,j,rfl,L,M,N,O⟩;have Q:=Y.kO O;have J:=D.tO O)
 have b:=(Keep.refl [] I).alloc (.cells #[ii k,ii view,ii mode,ii l,ii m,ii o,ii r,ii t,ii u,ii y,ii C,.slice BA P d,.slice OA P f,.slice (some (aq i 0)) 8 j] 240);have a9:=Blk.new I 240 #[ii k,ii view,ii mode,ii l,ii m,ii o,ii r,ii t,ii u,ii y,ii C,.slice BA P d,.slice OA P f,.slice (some (aq i 0)) 8 j];replace L:=ZC (QB L b) D.size;replace M:=ZC (QB M b) D.size;replace N:=ZC (QB N b) D.size;replace J:=J.tO b;replace Q:=Q.kO b;have a1:=X _ J;clear X b O D Y;generalize (I.alloc (.cells #[ii k,ii view,ii mode,ii l,ii m,ii o,ii r,ii t,ii u,ii y,ii C,.slice BA P d,.slice OA P f,.slice (some (aq i 0)) 8 j] 240))=w3 at *;generalize I.heap.size=NX at *
 go_wp2_with (
  refine a1.mono ?_;clear a1;rintro e R ⟨rfl,E⟩;have b:=(Keep.refl [] R).alloc (.cells #[zz,zz,zz,zz,zz,zz,zz,zz,zz,zz,zz,zn,zn,zn] 240);have a:=(Q.kO E).kO b;have a2:=(a9.kO E).kO b;obtain⟨x0,x1,x2,x3,x4,x5,x6,x7,x8,x9,ae,af,ag,ah⟩:=ZD a2;obtain⟨z0,z1,z2,z3,z4,z5,z6,z7,z8,z9,ai,aj,ak,al⟩:=ZD a;have f0:=a.frozen 0;have f1:=a.frozen 1;have f2:=a.frozen 2;have f3:=a.frozen 3;have f4:=a.frozen 4;have f5:=a.frozen 5;have f6:=a.frozen 6;have f7:=a.frozen 7;have f8:=a.frozen 8;have f9:=a.frozen 9;have am:=a.frozen 10;have an:=a.frozen 11;have ao:=a.frozen 12;have ap:=a.frozen 13;have ar:=a2.lt;have au:=a.lt)
 have hz:=((((((((((((((a.set 0 (.int .i64 k)).set 1 (.int .i64 view)).set 2 (.int .i64 mode)).set 3 (.int .i64 l)).set 4 (.int .i64 m)).set 5 (.int .i64 o)).set 6 (.int .i64 r)).set 7 (.int .i64 t)).set 8 (.int .i64 u)).set 9 (.int .i64 y)).set 10 (.int .i64 C)).set 11 (.slice BA P d)).set 12 (.slice OA P f)).set 13 (.slice (some (aq i 0)) 8 j));have K:=(((((((((((((((Keep.refl [w.heap.size] (R.alloc (.cells #[zz,zz,zz,zz,zz,zz,zz,zz,zz,zz,zz,zn,zn,zn] 240))).setCell (p:=⟨w.heap.size,0,none⟩) (.inl sq) (.int .i64 k)).setCell (p:=⟨w.heap.size,1,none⟩) (.inl sq) (.int .i64 view)).setCell (p:=⟨w.heap.size,2,none⟩) (.inl sq) (.int .i64 mode)).setCell (p:=⟨w.heap.size,3,none⟩) (.inl sq) (.int .i64 l)).setCell (p:=⟨w.heap.size,4,none⟩) (.inl sq) (.int .i64 m)).setCell (p:=⟨w.heap.size,5,none⟩) (.inl sq) (.int .i64 o)).setCell (p:=⟨w.heap.size,6,none⟩) (.inl sq) (.int .i64 r)).setCell (p:=⟨w.heap.size,7,none⟩) (.inl sq) (.int .i64 t)).setCell (p:=⟨w.heap.size,8,none⟩) (.inl sq) (.int .i64 u)).setCell (p:=⟨w.heap.size,9,none⟩) (.inl sq) (.int .i64 y)).setCell (p:=⟨w.heap.size,10,none⟩) (.inl sq) (.int .i64 C)).setCell (p:=⟨w.heap.size,11,none⟩) (.inl sq) (.slice BA P d)).setCell (p:=⟨w.heap.size,12,none⟩) (.inl sq) (.slice OA P f)).setCell (p:=⟨w.heap.size,13,none⟩) (.inl sq) (.slice (some (aq i 0)) 8 j));simp only[PU] at hz;obtain⟨y0,y1,y2,y3,y4,y5,y6,y7,y8,y9,aa,ab,ac,ad⟩:=ZD hz;refine Af (v:=.tuple #[.agg #[ii k,ii view,ii mode,ii l,ii m,ii o,ii r,ii t,ii u,ii y,ii C,.slice BA P d,.slice OA P f,.slice (some (aq i 0)) 8 j],zz,zz]) (by simp[results,results402,go_sem,y0,y1,y2,y3,y4,y5,y6,y7,y8,y9,aa,ab,ac,ad]) rfl ?_;have S:∀ {e:TypeId} {n s:Nat} {a3:Value} {xs:List Value},(R.alloc (.cells #[zz,zz,zz,zz,zz,zz,zz,zz,zz,zz,zz,zn,zn,zn] 240)).ownsRow w.heap.size e s a3 n xs->e≠240->∀ x,a3.ownBlock=some x->x∉[w.heap.size]:=fun hq he x hx hm=>by simp at hm;subst hm;exact own_blk_ne hq a he hx
 have g1:=QB (QB L E) b;have g2:=QB (QB M E) b;have g3:=QB (QB N E) b;exact⟨BA,d,OA,f,i,j,rfl,XB g1 K (S g1 (by decide)),XB g2 K (S g2 (by decide)),XB g3 K (S g3 (by decide)),((J.tO E).tO b).trans K iq⟩
section
variable (w:World) (base s d g t p m:Nat) (Fd Ft Fw Fm:List Nat) (L0 L1:Value) (B:Nat) (S:PS) (h:StoreIs w base s d g t p m Fd Ft Fw Fm L0 L1 B S)
include h
theorem ImageS_is:cq 71 #[pq s] w (pq m):=by
 obtain⟨a,b,c,d,e,f,g,i,j,k,l,n,o,p,r,t,u,v⟩:=KC h.blk;go_enter func71,ntmps71
 go_wp2
 go_ret;exact⟨rfl,rfl⟩
theorem DiskS_is:cq 91 #[pq s] w (pq d):=by
 obtain⟨a,b,c,e,f,g,i,j,k,l,m,n,o,p,r,t,u,v⟩:=KC h.blk;go_enter func91,ntmps91
 go_wp2
 go_ret;exact⟨rfl,rfl⟩
theorem BlocksS_is:cq 242 #[pq m] w B:=by
 obtain⟨a,b,c,d,hi⟩:=h.img;have:=BlocksI_is w base m a b Fm c d S.I hi;rw[h.blen] at this;exact this
theorem ZY (b n:Nat) (e:1<=n) (f:b+n<=B):cq 109 #[pq s,b,n] w (.bool true):=by
 have a:=ImageS_is w base s d g t p m Fd Ft Fw Fm L0 L1 B S h;have c:=BlocksS_is w base s d g t p m Fd Ft Fw Fm L0 L1 B S h;have i:B<=64:=h.log.geom.few;have j:(1:Int)<=(n:Nat):=Z;have k:((n:Nat):Int)<=(B:Nat):=Z;have l:((b:Nat):Int)<=(B:Nat)-(n:Nat):=Z;go_enter func109,ntmps109;go_wp2_with (first | (apply mq a) | (apply mq c));go_ret;exact⟨rfl,rfl⟩
theorem QS (mode:Nat) (c:mode=0\/mode=S.st.mode):cq 93 #[pq s,mode,.bool true] w zz:=by
 obtain⟨e,f,g,i,j,k,l,m,n,o,p,r,t,u,v,y,z,A⟩:=KC h.blk;have a:=Ku w base d Fd S.D h.log.disk;rw[h.log.off] at a;by_cases b:mode=0
 . subst b
   go_enter func93,ntmps93;go_wp2_with (apply mq a);go_ret;exact⟨rfl,rfl⟩
 obtain rfl:=c.resolve_left b;have B:¬ ((S.st.mode:Nat):Int)=0:=Z;go_enter func93,ntmps93;go_wp2_with (apply mq a);go_ret;exact⟨rfl,rfl⟩
theorem KBF (a:S.st.mode=1):cq 93 #[pq s,ii 1,.bool false] w (ii 1):=by
 obtain⟨c,d,e,f,g,b,i,j,k,l,m,n,o,p,r,t,u,v⟩:=KC h.blk;rw[a] at b;go_enter func93,ntmps93;go_wp2_with fail;go_ret;exact⟨rfl,rfl⟩
theorem Yf (a:Nat) (ha:a=0\/(6+4*pgs B<=a/\a<198+4*pgs B)) (A:Option Addr) (n c:Nat) (zs:List Int) (C:Rd w A n (VM zs)) (hr:∀ z∈zs,z<=0\/(6+4*pgs B<=z.toNat/\z.toNat<198+4*pgs B)) (hn:n<=1000) (a8:∀ x,A=some x->x.block∉Ft) :
 Calls prog 107 #[pq s,a,.slice A n c] w fun e w'=>e=.returned (.tuple #[])/\StoreIs w' base s d g t p m Fd Ft Fw Fm L0 L1 B { S with lv:=Kg B S.lv a zs }/\Keep Ft w w':=by
 have D:zs.length=n:=uq C.1;have a9:s∉Ft:=fun hm=>h.aps (by simp[hm]);have aa:g∉Ft:=h.log.gt
 have ab:Calls prog 40 #[pq t,a,ii 1] w fun e w'=>∃ b,e=.returned (.bool b)/\TableAt w' base t g Ft S.us (Kg B S.lv a [])/\Keep Ft w w':=by
  rcases ha with rfl | ⟨h1,h2⟩
  . apply (VBb h.log.tab h.log.geom 1).mono
    rintro e w' ⟨rfl,f⟩;exact⟨_,rfl,h.log.tab.kO f,f.zero⟩
  apply (KBG h.log.tab h.log.geom a h1 h2 1 (.inl rfl)).mono;rintro e w' ⟨rfl,o,f⟩;refine⟨_,rfl,?_,f⟩;unfold Kg;rw[AL Z];exact o
 have ac:∀ w' r,TableAt w' base t g Ft S.us r->Keep Ft w w'->StoreIs w' base s d g t p m Fd Ft Fw Fm L0 L1 B { S with lv:=r }:=fun w' r o f=>(h.setLog (h.log.setTab o f) (f.sub (fun x y=>by simp[y])) (Grow.refl _ _) (Grow.refl _ _)).1;have E:=h.blk;have ad:=h.log.geom;obtain⟨F,G,H,I,J,K,L,M,N,O,P,Q,R,T,U,V,W,X⟩:=KC E;clear h;have Y:=JB D;clear D;go_enter func107,ntmps107;go_wp2_with (apply ab.mono;rintro e w1 ⟨b,rfl,ae,af⟩);clear F G H I J K L M N O P Q R T U V W X;go_loopw [16] (fun i wr=>∃ j:Nat,j<=n/\i=.int .i64 (j:Nat)/\TableAt wr base t g Ft S.us (Kg B S.lv a (zs.take j))/\Keep Ft w wr) (fun i _=>n-(intOf i).toNat)
 case atStart=>exact⟨0,AS _,rfl,uq ae,af⟩
 obtain⟨j,hj,rfl,l,k⟩:=hrel;by_cases a0:j<n
 . have a1:j<zs.length:=by rw[JA Y];exact a0
   obtain⟨aj,ao,u,rfl,hu,ak,al⟩:=(C.keepIf k a8).at_ a0;have a2:zs[j]? = some zs[j]:=AC a1;simp only[VM,i64,Aa,a2,Ao,Ae] at hu;have ag:=hr zs[j] (AQ _)
   have a3:Kg B S.lv a (zs.take (j+1))=if 0<zs[j] then XO (Kg B S.lv a (zs.take j)) ((zs[j].toNat-(6+4*pgs B)) / 24) (-1) else Kg B S.lv a (zs.take j):=by
    unfold Kg;rw[AO a1,List.foldl_append];rfl
   obtain⟨F,G,H,I,J,K,L,M,N,O,P,Q,R,T,U,V,W,X⟩:=KC (E.keep k a9);subst hu;have a4:=JB a3;clear a3 a2;generalize zs[j]=z at *;by_cases a5:0<z
   . have a6:=ag.resolve_left Z
     have a7:=KBG l (ad.keep k aa) z.toNat a6.1 a6.2 (-1) (.inr rfl);rw[show ((z.toNat:Nat):Int)=z from Z] at a7;go_wp2_with (apply a7.mono;rintro e w2 ⟨rfl,ah,ai⟩);go_roundw;case rel=>exact⟨j+1,Z,by go_num,by rw[JA a4,AP a5];exact ah,k.trans ai (fun x y=>.inl y)⟩
     case measure=>simp[intOf];omega
   go_wp2_with fail;go_roundw;case rel=>exact⟨j+1,Z,by go_num,by rw[JA a4,AL a5];exact l,k⟩
   case measure=>simp[intOf];omega
 obtain rfl:j=n:=Z;go_wp2_with fail;refine bodyPost_end (v:=.tuple #[]) (by simp[results,results107,go_sem]) rfl ?_;rw[AH (by rw[JA Y];exact AG _)] at l;exact⟨rfl,ac _ _ l k,k⟩
theorem ZAP (j:S.W.Ok) (Y:S.D.acts<=8000000) (a0:S.W.pos.lsn<2147483647) :
 Calls prog 106 #[pq s] w fun e w'=>e=.returned zz/\∃ k Fw' l n o,StoreIs w' base s d g t p m k Ft Fw' Fm L0 L1 B { S with D:=l.flush,us:=n,W:=o }/\Emitted B S.D S.us S.W l n o /\
  Keep (Fd++(Ft++Fw)) w w'/\Grow w Fd k/\Grow w Fw Fw':=by
 have r:=JAJ (w:=w) (base:=base) (d:=d) (g:=g) (t:=t) (p:=p) (Fd:=Fd) (Ft:=Ft) (Fw:=Fw) (B:=B) (D:=S.D) (us:=S.us) (lv:=S.lv) (W:=S.W) h.log j Y a0;have u:=h.blk;have a1:s∉Fd++(Ft++Fw):=fun a=>h.aps (by simp only[AM,AD] at a ⊢;rcases a with a | a | a <;> simp[a]);obtain⟨v,y,z,A,C,E,F,G,H,I,J,K,L,M,N,O,P,Q⟩:=KC u;go_enter func106,ntmps106
 go_wp2_with (first
  | (go_at_call 94
     refine r.mono ?_;clear r v y z A C E F G H I J K L M N O P Q;rintro e w1 ⟨rfl,a9,a2,a3,a4,a5,b,R,c,f,T⟩;obtain⟨v,y,z,A,C,E,F,G,H,I,J,K,L,M,N,O,P,Q⟩:=KC (u.keep c a1);have hf:=R.facts j
     have U:=Vp b.disk b.off b.fuse (by have:=hf.2.2.2.2.2.2.2.2.1;omega) b.le)
  | (go_at_call 96
     refine U.mono ?_;clear U;rintro e w2 ⟨rfl,a6,a7,V,i⟩))
 go_ret;have h2:=b.setDisk a7 V i rfl rfl rfl;have X:Keep (Fd++(Ft++Fw)) w w2:=c.trans V (fun x hx=>(f x hx).imp (fun h=>by simp[h]) id);obtain⟨a8,_⟩:=h.setLog h2 X (f.trans c.size i) T;exact⟨rfl,a6,a2,a3,a4,a5,a8,R,X,f.trans c.size i,T⟩
end
theorem Kc {B:Nat} {S:PS} {x z:Int} (h:x = -1\/RefOk B S x):QF x z<=0\/(6+4*pgs B<=(QF x z).toNat/\(QF x z).toNat<198+4*pgs B):=by
 unfold QF
 split
 . exact .inl (Int.le_refl _)
 rcases h with rfl | rfl | ⟨h0,hl⟩
 . exact .inl Z
 . exact .inl Z
 right;rw[show max x 0=x from Z];exact⟨hl.lo,hl.hi⟩
theorem Kz {l:List Int} {i:Nat} (h:i<l.length):l.getD i 0∈l:=by
 rw[AB,AC h];exact AQ h
theorem Good.room {B:Nat} {S:PS} (a:Good B S k j) (b:k<=50) {m:Nat} (c:m<=1) (d:Bool):RoomOk S.us S.W m d:=by
 intro _ e;have f:=a.cap.free b c e;obtain⟨h,g⟩:=YW S.us Z;exact⟨by have:=a.cap.ul;omega,g,fun _=>f⟩
theorem RoomOk.frees {W:PW} {m:Nat} {b:Bool} (h:RoomOk us W m b) (e:us.length=8):KO us W m:=by
 intro c d;obtain⟨f,a,-⟩:=h c d;rw[JI Z] at a;unfold YD;exact B7.2 ⟨_,AQ (l:=us) (n:=YC us) Z,uq a⟩
theorem YAt {s g:Nat} {Fd Ft Fw Fm:List Nat} {L0 L1:Value} {l:List Nat} (h:∀ x∈l,x=s\/x∈Fd\/x∈Ft\/x∈Fw\/x∈Fm):∀ x∈l,x∈ZN s g Fd Ft Fw Fm L0 L1:=fun x a=>by
 simp only[ZN,AM,AD];rcases h x a with h | h | h | h | h <;> simp[h]
theorem ZAq {w:World} {base s d:Nat} {B:Nat} {S:PS} (h:StoreAt w base s d F B S) (n:Good B S k j) (a5:RoomOk S.us S.W 1 false) (hj:j<=100000) (i:S.st.mode=1) (b:Nat) (hb:b<B) (c:Nat) (bs:List UInt8) (hr:Rd w A 64 (bys bs)) (ai:∀ x,A=some x->x.block∉F) :
 Calls prog 27 #[pq s,b,.slice A 64 c] w fun e w'=>e=.returned zz/\∃ F' S',StoreAt w' base s d F' B S'/\Wrote B S b bs S'/\Keep F w w'/\Grow w F F':=by
 obtain⟨g,t,p,m,Fd,Ft,Fw,Fm,L0,L1,h,rfl⟩:=h;have b9:bs.length=64:=uq hr.1;have a6:=ZY w base s d g t p m Fd Ft Fw Fm L0 L1 B S h b 1 Z Z;have a7:=QS w base s d g t p m Fd Ft Fw Fm L0 L1 B S h 1 (.inr i.symm);have aj:PItem.May ⟨1,b,0,0⟩:=.inl ⟨.inl rfl,by have:=n.b64;simp only;omega,rfl,rfl⟩;have ba:=n.cap.acts;have bb:=n.cap.lsn;have o:=QAG h.log n.cap.ok n.cap.off Z Z n.cap.opn aj sq a5 (A:=A) c bs (by simpa [ZM,PItem.loaded] using hr) (fun x f i=>ai x f (YAt (by intro y hy;simp only[AD] at hy;rcases hy with h | h | h <;> simp[h]) _ i));rw[show 64*ZM ⟨1,b,0,0⟩=64 by simp[ZM,PItem.loaded]] at o;simp only[itc] at o;have a8:=h.blk;have bc:S.st.seq<=100000:=by have:=n.seq;omega
 have ak:s∉Fd++(Ft++Fw):=fun i=>h.aps (by simp only[AM,AD] at i ⊢;rcases i with i | i | i <;> simp[i]);obtain⟨E,G,H,I,J,K,L,M,N,O,P,Q,R,T,U,V,W,X⟩:=KC a8;go_enter func27,ntmps27
 go_wp2_with (first
  | (go_at_call 109
     refine a6.mono ?_;clear a6
     rintro e w' ⟨rfl,rfl⟩)
  | (go_at_call 93
     refine a7.mono ?_;clear a7
     rintro e w' ⟨rfl,rfl⟩)
  | (go_at_call 105
     refine o.mono ?_;clear o E G H I J K L M N O P Q R T U V W X;rintro e w1 ⟨a,rfl,a9,aa,al,am,an,ao,h1,ab,Y,ap,ar⟩;have a0:=a8.keep Y ak;have f8:=a0.frozen 8;obtain⟨E,G,H,I,J,K,L,M,N,O,P,Q,R,T,U,V,W,X⟩:=KC a0))
 obtain⟨au,av⟩:=h.setLog h1 Y ap ar;have ac:Keep [s] w1 (w1.setCell (aq s 8) (.int .i64 ((S.st.seq:Nat)+1))):=kq.sc s 8;have aw:=a0.set 8 (.int .i64 ((S.st.seq:Nat)+1));have a1:=au.setSt { S.st with seq:=S.st.seq+1 } (uq aw) ac;obtain⟨_,_,_,_,r⟩:=ab.readsG n.cap (a5.frees n.cap.ul) n.now n.many;obtain⟨r,_⟩:=r rfl;have ax:=r.lo;have ay:=r.hi;have bd:=(JD h.log.geom.pos h.log.geom.few).2;have a2:=ZAx a1.img b a (by rw[h.blen];exact hb) Z;have ad:=Kc (z:=(a:Nat)) (n.orefs (S.I.ol.getD b 0) (Kz (by rw[n.ol];exact hb)));obtain⟨a3,a4⟩:=ex (QF (S.I.ol.getD b 0) a);rw[<- a4] at a2 ad;have az:=JB a4;clear a4;generalize w1.setCell (aq s 8) (.int .i64 ((S.st.seq:Nat)+1))=w2 at *;have bf:s∉Fm:=fun i=>h.aps (by simp[i]);have bg:=a1.blk;clear E G H I J K L M N O P Q R T U V W X
 go_wp2_with (first
  | (go_at_call 110
     refine a2.mono ?_;clear a2;rintro e C ⟨rfl,b0,ae⟩))
 have af:=a1.setImg b0 sq ae;have ag:kz C (C.alloc (.cells #[ii a3] 3)):=kq.alloc _;have b1:=JT C (.int .i64 a3) 3;have b2:∀ x∈Ft,x<C.heap.size:=fun x f=>af.log.tab.lt x f;have ah:=Yf _ base s d g t p m a9 Ft aa Fm L0 L1 B _ (af.kO ag) a (.inr ⟨ax,ay⟩) _ 1 1 [a3] b1 (uq ad) Z (fun x f i=>by cases f;have:=b2 _ i;simp at this);go_wp2_with (refine ah.mono ?_;clear ah;rintro e w4 ⟨rfl,b3,b4⟩);go_ret;have D:∀ {l:List Nat} {u v:World},(∀ x∈l,x=s\/x∈Fd\/x∈Ft\/x∈Fw\/x∈Fm)->Keep l u v->Keep (ZN s g Fd Ft Fw Fm L0 L1) u v:=fun hl hk=>hk.sub (YAt hl);have b5:=D (by intro x f;simp only[AD] at f;rcases f with h | h | h <;> simp[h]) Y;have b6:=b5.trans (D (by intro x f;simp at f;simp[f]) ac) (fun x f=>.inl f);have b7:=b6.trans (D (by intro x f;simp[f]) ae) (fun x f=>.inl f);have b8:=(b7.tO ag).trans (D (by intro x f;simp[f]) b4) (fun x f=>.inl f);refine⟨rfl,_,_,⟨g,t,p,m,a9,Ft,aa,Fm,L0,L1,b3,rfl⟩,⟨al,am,an,ao,a,ab,?_⟩,b8,av⟩;rw[<- JA az]
theorem ZAz {w:World} {base s d:Nat} {B:Nat} {S:PS} (h:StoreAt w base s d F B S) (a:Good B S k j) (f:k<=50) (g:j<=100000) (i:S.st.mode=1) (b:Nat) (l:b<B) (c:Nat) (bs:List UInt8) (m:Rd w A 64 (bys bs)) (n:∀ x,A=some x->x.block∉F) :
 Calls prog 27 #[pq s,b,.slice A 64 c] w fun e w'=>e=.returned zz/\∃ F' S',StoreAt w' base s d F' B S'/\Wrote B S b bs S'/\Keep F w w'/\Grow w F F':=
 ZAq h a (a.room f Z false) g i b l c bs m n
theorem Yz {B:Nat} {S:PS} (b n:Nat) (l:List Int) (ds:List Bool) (h:∀ x∈l,x = -1\/RefOk B S x) (e:b+n<=l.length) :
 (∀ x∈(XF b n l ds).2.1,x = -1\/RefOk B S x)/\∀ x∈(XF b n l ds).1,x<=0\/(6+4*pgs B<=x.toNat/\x.toNat<198+4*pgs B):=by
 induction n with
 | zero=>exact⟨h,by intro x a;cases a⟩
 | succ n ih=>
   obtain⟨c,d⟩:=ih Z;have f:=(KH b n l ds).1;rw[KS];unfold XN;refine⟨fun x a=>?_,fun x a=>?_⟩
   . simp only at a
     rcases AW a with a | rfl
     . exact c x a
     exact .inr (.inl rfl)
   simp only at a
   split at a
   . rcases AD.1 a with a | a
     . exact d x a
     simp only[Ak] at a;subst a;exact Kc (c _ (Kz Z))
   exact d x (uq a)
theorem XAy {B:Nat} {S:PS} (b ol:List Int) (k:Nat) (h:∀ x∈b,RefOk B S x):∀ x∈QAD b ol k,x<=0\/(6+4*pgs B<=x.toNat/\x.toNat<198+4*pgs B):=by
 intro x a;unfold QAD at a;obtain⟨p,c,a⟩:=Bk.1 a;have d:p.1∈b:=(List.of_mem_zip (CI c)).1
 split at a
 . cases a
 split at a
 . simp only[Ak] at a
   subst a;exact Kc (.inr (h _ d))
 cases a
theorem VBJ {w:World} {base s d:Nat} {B:Nat} {S:PS} (h:StoreAt w base s d F B S) (i:Good B S k j) (ae:RoomOk S.us S.W 0 false) (hj:j<=100000) (f:S.st.mode=1) (b n:Nat) (D:1<=n) (E:b+n<=B) :
 Calls prog 78 #[pq s,b,n] w fun e w'=>e=.returned zz/\∃ F' S',StoreAt w' base s d F' B S'/\Trimmed B S b n S'/\Keep F w w'/\Grow w F F':=by
 obtain⟨g,t,p,m,Fd,Ft,Fw,Fm,L0,L1,h,rfl⟩:=h;have a5:=ZY w base s d g t p m Fd Ft Fw Fm L0 L1 B S h b n D E;have a6:=QS w base s d g t p m Fd Ft Fw Fm L0 L1 B S h 1 (.inr f.symm);have af:PItem.May ⟨2,b,n,0⟩:=.inr (.inl ⟨.inl rfl,by have:=i.b64;simp only;omega,D,by have:=i.b64;simp only;omega,rfl⟩);have b6:=i.cap.acts;have b7:=i.cap.lsn;have r:=QAG h.log i.cap.ok i.cap.off Z Z i.cap.opn af sq ae (A:=none) 0 [] (by rw[show 64*ZM ⟨2,b,n,0⟩=0 by simp[ZM,PItem.loaded]];exact Rd.nil w none) (fun x c=>by cases c);rw[show 64*ZM ⟨2,b,n,0⟩=0 by simp[ZM,PItem.loaded]] at r;simp only[itc] at r;have a7:=h.blk;have b8:S.st.seq<=100000:=by have:=i.seq;omega
 have ag:s∉Fd++(Ft++Fw):=fun f=>h.aps (by simp only[AM,AD] at f ⊢;rcases f with f | f | f <;> simp[f]);obtain⟨H,I,J,K,L,M,N,O,P,Q,R,T,U,V,W,X,Y,a0⟩:=KC a7;go_enter func78,ntmps78
 go_wp2_with (first
  | (go_at_call 109
     refine a5.mono ?_;clear a5
     rintro e w' ⟨rfl,rfl⟩)
  | (go_at_call 93
     refine a6.mono ?_;clear a6
     rintro e w' ⟨rfl,rfl⟩)
  | (go_at_call 105
     refine r.mono ?_;clear r H I J K L M N O P Q R T U V W X Y a0;rintro e w1 ⟨a,rfl,a8,a9,ah,ai,aj,ak,y,al,a1,am,an⟩;have a2:=a7.keep a1 ag;have f8:=a2.frozen 8;obtain⟨H,I,J,K,L,M,N,O,P,Q,R,T,U,V,W,X,Y,a0⟩:=KC a2))
 obtain⟨ao,ap⟩:=h.setLog y a1 am an;have aa:Keep [s] w1 (w1.setCell (aq s 8) (.int .i64 ((S.st.seq:Nat)+1))):=kq.sc s 8;have ar:=a2.set 8 (.int .i64 ((S.st.seq:Nat)+1));have o:=ao.setSt { S.st with seq:=S.st.seq+1 } (uq ar) aa;have a3:=YBT o.img b n D (by rw[h.blen];exact E);have ab:=(Yz b n S.I.ol S.I.od i.orefs (by rw[i.ol];exact E)).2;have au:=(KL b n S.I.ol S.I.od (-1) Z o.img.ok.2.2).2.2;have b9:=i.b64;obtain⟨tr,z⟩:=ex (XF b n S.I.ol S.I.od);have ba:tr.2.1.length=S.I.ol.length:=by rw[z];exact(KH b n S.I.ol S.I.od).1
 rw[<- z] at a3 ab au;have av:=JB z;clear z;generalize w1.setCell (aq s 8) (.int .i64 ((S.st.seq:Nat)+1))=w2 at *;have bb:s∉Fm:=fun f=>h.aps (by simp[f]);have bc:=o.blk;clear H I J K L M N O P Q R T U V W X Y a0
 go_wp2_with (first
  | (go_at_call 208
     refine a3.mono ?_;clear a3;rintro e w3 ⟨G,rfl,a4,aw,ac⟩;obtain⟨ax,gc,rfl,_⟩:=ZB a4))
 have ay:=o.setImg aw sq ac;have az:∀ x∈Ft,x<w2.heap.size:=fun x c=>o.log.tab.lt x c
 have ad:=Yf _ base s d g t p m a8 Ft a9 Fm L0 L1 B _ ay 0 (.inl rfl) ax tr.1.length gc tr.1 (Rd.of_own a4) ab Z (fun x c f=>by
  subst c;obtain⟨y,h2⟩ | ⟨gb,cap,bd,e,y,_⟩:=a4.2
  . cases y
  injection e with e _ _;injection e with e;subst e;have:=az _ f;simp at this;omega)
 go_wp2_with (refine ad.mono ?_;clear ad;rintro e w4 ⟨rfl,b0,b1⟩);go_ret;have C:∀ {l:List Nat} {u v:World},(∀ x∈l,x=s\/x∈Fd\/x∈Ft\/x∈Fw\/x∈Fm)->Keep l u v->Keep (ZN s g Fd Ft Fw Fm L0 L1) u v:=fun hl hk=>hk.sub (YAt hl);have b2:=C (by intro x c;simp only[AD] at c;rcases c with h | h | h <;> simp[h]) a1;have b3:=b2.trans (C (by intro x c;simp at c;simp[c]) aa) (fun x c=>.inl c);have b4:=b3.trans (C (by intro x c;simp[c]) ac) (fun x c=>.inl c);have b5:=b4.trans (C (by intro x c;simp[c]) b1) (fun x c=>.inl c);refine⟨rfl,_,_,⟨g,t,p,m,a8,Ft,a9,Fm,L0,L1,b0,rfl⟩,⟨ah,ai,aj,ak,a,al,?_⟩,b5,ap⟩;rw[<- JA av]
theorem YBV {w:World} {base s d:Nat} {B:Nat} {S:PS} (h:StoreAt w base s d F B S) (a:Good B S k j) (c:k<=50) (f:j<=100000) (g:S.st.mode=1) (b n:Nat) (i:1<=n) (l:b+n<=B) :
 Calls prog 78 #[pq s,b,n] w fun e w'=>e=.returned zz/\∃ F' S',StoreAt w' base s d F' B S'/\Trimmed B S b n S'/\Keep F w w'/\Grow w F F':=
 VBJ h a (a.room c Z false) f g b n i l
theorem VBH {w:World} {base s d:Nat} {B:Nat} {S:PS} (h:StoreAt w base s d F B S) (b:S.st.mode=1) (e:Nat) (c:e≠S.st.epoch+1) (i:S.st.epoch<=1000000000) :
 cq 26 #[pq s,e] w (ii 1):=by
 obtain⟨g,t,p,m,Fd,Ft,Fw,Fm,L0,L1,h,rfl⟩:=h;have f:=KBF w base s d g t p m Fd Ft Fw Fm L0 L1 B S h b;obtain⟨j,k,l,n,o,r,u,v,y,z,A,C,D,E,G,H,I,J⟩:=KC h.blk;have a:¬ ((e:Nat):Int)=(S.st.epoch:Nat)+1:=Z;go_enter func26,ntmps26;have K:(((e:Nat):Int) == (S.st.epoch:Nat)+1)=false:=uq a;clear a c;go_wp2_with (apply mq f);go_ret;exact⟨rfl,rfl⟩
theorem YAu {w:World} {base s d:Nat} {B:Nat} {S:PS} (h:StoreAt w base s d F B S) (c:Good B S k j) (a8:RoomOk S.us S.W 0 false) (hj:j<=100000) (f:S.st.mode=1) (e:Nat) (he:e=S.st.epoch+1) :
 Calls prog 26 #[pq s,e] w fun r w'=>r=.returned zz/\∃ F' S',StoreAt w' base s d F' B S'/\Marked B S e S'/\Keep F w w'/\Grow w F F':=by
 obtain⟨g,t,p,m,Fd,Ft,Fw,Fm,L0,L1,h,rfl⟩:=h;have a9:=QS w base s d g t p m Fd Ft Fw Fm L0 L1 B S h 1 (.inr f.symm);have bo:S.st.epoch<=100000:=by have:=c.epoch;omega
 have aa:PItem.May ⟨3,0,0,e⟩:=.inr (.inr (.inl ⟨rfl,rfl,rfl,by simp only;omega,by simp only;omega⟩));have bp:=c.cap.acts;have bq:=c.cap.lsn;have o:=QAG (w:=w) (base:=base) (d:=d) (g:=g) (t:=t) (p:=p) (Fd:=Fd) (Ft:=Ft) (Fw:=Fw) (B:=B) (D:=S.D) (us:=S.us) (lv:=S.lv) (W:=S.W) h.log c.cap.ok c.cap.off Z Z c.cap.opn aa sq a8 (A:=none) 0 [] (by rw[show 64*ZM ⟨3,0,0,e⟩=0 by simp[ZM,PItem.loaded]];exact Rd.nil w none) (fun x b=>by cases b);rw[show 64*ZM ⟨3,0,0,e⟩=0 by simp[ZM,PItem.loaded]] at o;simp only[itc] at o;have ao:=h.blk;have br:S.st.seq<=100000:=by have:=c.seq;omega
 have bs:s∉Fd++(Ft++Fw):=fun f=>h.aps (by simp only[AM,AD] at f ⊢;rcases f with f | f | f <;> simp[f]);obtain⟨I,J,K,L,M,N,O,P,Q,R,T,U,V,X,Y,a0,a1,a2⟩:=KC ao;have ap:((e:Nat):Int)=(S.st.epoch:Nat)+1:=Z;have bt:=JB he;clear he;go_enter func26,ntmps26
 go_wp2_with (first
  | (go_at_call 93
     refine a9.mono ?_;clear a9 ap
     rintro r w' ⟨rfl,rfl⟩)
  | (go_at_call 105
     refine o.mono ?_;clear o I J K L M N O P Q R T U V X Y a0 a1 a2;rintro r w1 ⟨a,rfl,ar,au,av,aw,ax,ay,n,ab,z,ac,ad⟩;obtain⟨ae,bu⟩:=h.setLog n z ac ad;have az:KO S.us S.W (ZM ⟨3,0,0,e⟩):=a8.frees c.cap.ul;have a3:=c.cap.addedG az aa (fun h=>by cases h) ab
     have af:=ZAP w1 base s d g t p m ar Ft au Fm L0 L1 B _ ae a3.ok (by have:=a3.acts;simp only;omega) (by have:=a3.lsn;simp only;omega))
  | (go_at_call 106
     refine af.mono ?_;clear af;rintro r C ⟨rfl,ag,ah,b0,b1,b2,a4,b3,ai,b4,b5⟩;have i:=a4.blk;have f7:=i.frozen 7;have f8:=i.frozen 8;have f9:=i.frozen 9;simp only at i;obtain⟨I,J,K,L,M,N,O,P,Q,R,T,U,V,X,Y,a0,a1,a2⟩:=KC i))
 have aj:Keep [s] C (((C.setCell (aq s 7) (.int .i64 (e:Nat))).setCell (aq s 8) (.int .i64 ((S.st.seq:Nat)+1))).setCell (aq s 9) (.int .i64 ((S.st.seq:Nat)+1))):=
  (((Keep.refl [s] C).sc s 7).sc s 8).sc s 9
 have b6:=((i.set 7 (.int .i64 (e:Nat))).set 8 (.int .i64 ((S.st.seq:Nat)+1))).set 9 (.int .i64 ((S.st.seq:Nat)+1));have E:=a4.setSt { S.st with epoch:=e,seq:=S.st.seq+1,done:=S.st.seq+1 } (uq b6) aj;have a5:=XBK E.img;have ak:=XAy (B:=B) (S:=S) S.I.bl S.I.ol S.I.ol.length c.brefs;have b7:=Kx S.I.bl S.I.ol S.I.ol.length;have bv:=c.ol;have bw:=c.b64;have bx:=c.bl;have b8:(Xv S.I.bl S.I.ol S.I.ol.length).length=S.I.bl.length:=Xz Z Z;obtain⟨gs,a6⟩:=ex (QAD S.I.bl S.I.ol S.I.ol.length);rw[<- a6] at a5 ak b7;have b9:=JB a6;clear a6;generalize ((C.setCell (aq s 7) (.int .i64 (e:Nat))).setCell (aq s 8) (.int .i64 ((S.st.seq:Nat)+1))).setCell (aq s 9) (.int .i64 ((S.st.seq:Nat)+1))=w3 at *;have bz:=E.blk;clear I J K L M N O P Q R T U V X Y a0 a1 a2
 go_wp2_with (first
  | (go_at_call 108
     refine a5.mono ?_;clear a5;rintro r w4 ⟨G,bd,od,rfl,a7,ba,al⟩;obtain⟨bb,gc,rfl,_⟩:=ZB a7))
 have bc:=E.setImg ba (uq b8) al;have bf:∀ x∈Ft,x<w3.heap.size:=fun x b=>E.log.tab.lt x b
 have am:=Yf _ base s d g t p m ag Ft ah Fm L0 L1 B _ bc 0 (.inl rfl) bb gs.length gc gs (Rd.of_own a7) ak Z (fun x b f=>by
  subst b;obtain⟨n,h2⟩ | ⟨gb,cap,c2,e,n,_⟩:=a7.2
  . cases n
  injection e with e _ _;injection e with e;subst e;have:=bf _ f;simp at this;omega)
 go_wp2_with (refine am.mono ?_;clear am;rintro r w5 ⟨rfl,bg,bh⟩);go_ret;have H:∀ {l:List Nat} {u v:World},(∀ x∈l,x=s\/x∈Fd\/x∈Ft\/x∈Fw\/x∈Fm)->Keep l u v->Keep (ZN s g Fd Ft Fw Fm L0 L1) u v:=fun hl hk=>hk.sub (YAt hl);have an:=(h.setLog n z ac ad).2;obtain⟨_,bi⟩:=ae.setLog (a4.log) ai b4 b5;have bj:=H (by intro x b;simp only[AD] at b;rcases b with h | h | h <;> simp[h]) z;have bk:=bj.trans ai (fun x b=>an x (YAt (by intro y hy;simp only[AD] at hy;rcases hy with h | h | h <;> simp[h]) x b));have bl:=bk.trans (H (by intro x b;simp at b;simp[b]) aj) (fun x b=>.inl b);have bm:=bl.trans (H (by intro x b;simp[b]) al) (fun x b=>.inl b);have bn:=bm.trans (H (by intro x b;simp[b]) bh) (fun x b=>.inl b);refine⟨rfl,_,_,⟨g,t,p,m,ag,Ft,ah,Fm,L0,L1,bg,rfl⟩,⟨av,aw,ax,ay,a,b0,b1,b2,bd,od,ab,b3,?_⟩,bn,an.trans z.size bi⟩;rw[<- JA b9]
theorem ZBW {w:World} {base s d:Nat} {B:Nat} {S:PS} (h:StoreAt w base s d F B S) (a:Good B S k j) (b:k<=50) (c:j<=100000) (f:S.st.mode=1) (e:Nat) (g:e=S.st.epoch+1) :
 Calls prog 26 #[pq s,e] w fun r w'=>r=.returned zz/\∃ F' S',StoreAt w' base s d F' B S'/\Marked B S e S'/\Keep F w w'/\Grow w F F':=
 YAu h a (a.room b Z false) c f e g