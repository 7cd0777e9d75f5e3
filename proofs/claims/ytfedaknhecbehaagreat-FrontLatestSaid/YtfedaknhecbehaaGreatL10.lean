/- Lemmas of the proof, with their conditions. -/
import Derived.Test.YtfedaknhecbehaaGreatL09
namespace Go.Proofs.YtfedaknhecbehaaGreat
open Tryz Go.RowKit
variable {A:Option Addr} {w:World}
set_option linter.all false
set_option maxHeartbeats 4000000
set_option maxRecDepth 20000
theorem QAt (N:Nat) (H:List UInt8):laid (List.replicate N 0) 0 H=XY N H:=by
 unfold laid XY;rw[List.take_zero,Ad,A6,CZ]
theorem JAy {N:Nat} {H:List UInt8} (b:4<=N) (h:H.length<=N-4):Zu N H=Vk N H:=by
 have a:=XAP b h;have c:(XY N H).length=N:=length_zpad Z;rw[c] at a;unfold Zu;rw[QAt,a]
def VBB (seg mount lsn prev:Nat):List (Nat×Nat):=[(1,75),(1,72),(1,seg),(4,mount),(4,lsn),(4,prev)]
def Zv (seg mount lsn prev:Nat):List UInt8:=Vk 64 (fields (VBB seg mount lsn prev))
theorem XBS (a b c d:Nat):YAO a b c d=fields (VBB a b c d):=by simp[YAO,VBB,fields]
theorem XAR (a b c d:Nat):(Zv a b c d).length=64:=Va Z (by simp[VBB,widths])
theorem YAK (a b c d:Nat):Zu 64 (YAO a b c d)=Zv a b c d:=by
 rw[JAy Z (by rw[Ka];omega),XBS];rfl
theorem VAl (n lo hi:Int) (w:World) (h:n<lo):cq 431 #[ii n,ii lo,ii hi] w (.bool false):=by
 have a:¬ lo<=n:=Z;go_enter func431,ntmps431
 go_wp2
 go_ret;exact⟨rfl,rfl⟩
theorem ZBd (w:World) :
 cr 385 #[.agg #[zz,zz,zz,zz]] w (.bool false):=by
 have a:=fun W=>Xd 0 0 31 W ⟨Z,Z⟩;have b:=fun W=>VAl 0 1 2147483647 W Z;go_enter func385,ntmps385;go_wp2_with (first | (apply mq (a _);clear a) | (apply mq (b _);clear b));go_ret;exact⟨rfl,kq.alloc _⟩
theorem KBX (w:World) :
 cr 329 #[.agg #[zz,zz,zz,zz]] w (.tuple #[zn,ii 1]):=by
 have a:=fun W=>ZBd W;go_enter func329,ntmps329
 go_wp2_with (
  (refine(a _).mono ?_)
  clear a;rintro e c ⟨rfl,b⟩)
 go_ret2;exact⟨rfl,(kq.alloc _).tO b⟩
theorem Kw (c:Nat) (V:Rd w A 64 (bys (List.replicate 64 0))) :
 cr 425 #[.slice A 64 c] w (.tuple #[.agg #[zz,zz,zz,zz],ii 2]):=by
 obtain⟨bs,B⟩:∃ bs:List UInt8,bs=List.replicate 64 0:=⟨_,rfl⟩;have X:bs.length=64:=by rw[B];rfl
 obtain⟨t,Y⟩:∃ t,bs=fields [(1,0),(1,0),(1,0),(4,0),(4,0),(4,0)]++t:=⟨List.replicate 49 0,by rw[B];rfl⟩;have a0:=fun W=>KBX W;rw[<- B] at V;clear B;have a1:=fun W (hk:kz w W)=>XU c bs (V.keep hk) Z;have a2:=Blk.new w 383 #[zz,zz,zz,zz];have aj:=JB X;have C:=JB Y;clear X Y;go_enter func425,ntmps425
 go_wp2_with (
  (refine(a1 _ (kq.alloc _)).mono ?_)
  clear a1;rintro e w2 ⟨r,v,rfl,D,P⟩;have a3:=a2.kO P;clear a2)
 have a4:kz w w2:=(kq.alloc _).tO P;have d:w.heap.size<(w.alloc (.cells #[zz,zz,zz,zz] 383)).heap.size:=sq;generalize (w.alloc (.cells #[zz,zz,zz,zz] 383)).heap.size=base at *;have a:=ZP 2 D (by rw[JA aj];omega)
 go_wp2_with (
  (refine a.mono ?_)
  clear a;rintro e w3 ⟨ut,rfl,-,E,Q⟩)
 have a5:=Yk D Q sq d a3;have a6:kz w w3:=a4.trans Q (fun x b=>.inr (by have:=D.fresh x (by simp at b;simp[b]);omega));clear D a3 a4 P Q;have a:=Vv (k:=1) (n:=0) [(1,0),(1,0)] [(4,0),(4,0),(4,0)] E (JA C) rfl Z Z
 go_wp2_with (
  (refine a.mono ?_)
  clear a;rintro e w4 ⟨rfl,a7,a8⟩;have s:=Yk E a8 sq d a5;have q4:=s.frozen 0;obtain⟨j,l,m,o⟩:=YE s;have ao:=s.lt;have F:=YV 0 (.int .i64 (0:Nat)) a7 d s;have a9:=(a6.trans a8 (fun x b=>.inr (by have:=E.fresh x (by simp at b;simp[b]);omega))).trans F.2.2 iq;have R:Blk (w4.setCell w.heap.size (.int .i64 (0:Nat))) w.heap.size 383 #[zz,zz,zz,zz]:=F.2.1;have G:=F.1;obtain⟨f,g,h,i⟩:=YE R)
 clear q4 j l m o E a5 a6 a7 s F f g h i;have a:=Vv (k:=4) (n:=0) [(1,0),(1,0),(1,0)] [(4,0),(4,0)] G (JA C) rfl Z Z
 go_wp2_with (
  (refine a.mono ?_)
  clear a;rintro e w5 ⟨rfl,aa,ab⟩;have u:=Yk G ab sq d R;have q5:=u.frozen 1;obtain⟨j,l,m,o⟩:=YE u;have ap:=u.lt;have H:=YV 1 (.int .i64 (0:Nat)) aa d u;have ac:=(a9.trans ab (fun x b=>.inr (by have:=G.fresh x (by simp at b;simp[b]);omega))).trans H.2.2 iq;have S:Blk (w5.setCell (aq w.heap.size 1) (.int .i64 (0:Nat))) w.heap.size 383 #[zz,zz,zz,zz]:=H.2.1;have I:=H.1;obtain⟨f,g,h,i⟩:=YE S)
 clear q5 j l m o G R a9 aa u H f g h i;have a:=Vv (k:=4) (n:=0) [(1,0),(1,0),(1,0),(4,0)] [(4,0)] I (JA C) rfl Z Z
 go_wp2_with (
  (refine a.mono ?_)
  clear a;rintro e w6 ⟨rfl,ad,ae⟩;have y:=Yk I ae sq d S;have q6:=y.frozen 2;obtain⟨j,l,m,o⟩:=YE y;have ar:=y.lt;have J:=YV 2 (.int .i64 (0:Nat)) ad d y;have af:=(ac.trans ae (fun x b=>.inr (by have:=I.fresh x (by simp at b;simp[b]);omega))).trans J.2.2 iq;have T:Blk (w6.setCell (aq w.heap.size 2) (.int .i64 (0:Nat))) w.heap.size 383 #[zz,zz,zz,zz]:=J.2.1;have K:=J.1;obtain⟨f,g,h,i⟩:=YE T)
 clear q6 j l m o I S ac ad y J f g h i;have a:=Vv (k:=4) (n:=0) [(1,0),(1,0),(1,0),(4,0),(4,0)] [] K (JA C) rfl Z Z
 go_wp2_with (
  (refine a.mono ?_)
  clear a;rintro e w7 ⟨rfl,ag,ah⟩;have z:=Yk K ah sq d T;have q7:=z.frozen 3;obtain⟨j,l,m,o⟩:=YE z;have au:=z.lt;have L:=YV 3 (.int .i64 (0:Nat)) ag d z;have ak:=(af.trans ah (fun x b=>.inr (by have:=K.fresh x (by simp at b;simp[b]);omega))).trans L.2.2 iq;have ai:Blk (w7.setCell (aq w.heap.size 3) (.int .i64 (0:Nat))) w.heap.size 383 #[zz,zz,zz,zz]:=L.2.1;have al:=L.1;obtain⟨f,g,h,i⟩:=YE ai)
 clear q7 j l m o K T af ag z L
 go_wp2_with (
  (refine(a0 _).mono ?_)
  clear a0;rintro e w9 ⟨rfl,U⟩;have am:=ak.tO U;have p:=ai.kO U;obtain⟨j,l,m,o⟩:=YE p;have f0:=p.frozen 0;have f1:=p.frozen 1;have f2:=p.frozen 2;have f3:=p.frozen 3;have av:=p.lt)
 have M:=YV 0 (.int .i64 0) (al.kO U) d p;have N:=YV 1 (.int .i64 0) M.1 d M.2.1;have O:=YV 2 (.int .i64 0) N.1 d N.2.1;have z3:=YV 3 (.int .i64 0) O.1 d O.2.1;have an:=(((am.trans M.2.2 iq).trans N.2.2 iq).trans O.2.2 iq).trans z3.2.2 iq;have f:=M.2.1.cell 0;have g:=N.2.1.cell 1;have h:=O.2.1.cell 2;have i:=z3.2.1.cell 3;simp at f g h i;refine Af (v:=.tuple #[.agg #[zz,zz,zz,zz],ii 2]) (by simp[results,results425,go_sem,f,g,h,i]) rfl ?_;exact⟨rfl,an⟩
theorem XBW (a b d f:Nat) (h1:a<=31) (h2:1<=b/\b<=2147483647) (h3:1<=d/\d<=2147483647) (h4:f<=4294967295) (c:Nat) (ha:Rd w A 64 (bys (Zv a b d f))) :
 cr 425 #[.slice A 64 c] w (.tuple #[.agg #[ii a,ii b,ii d,ii f],zz]):=by
 have a2:=XAR a b d f;obtain⟨t,a3⟩:∃ t,Zv a b d f=fields [(1,75),(1,72),(1,a),(4,b),(4,d),(4,f)]++t:=Ja 64 _;have T:=fun W=>YAe a b d f h1 h2 h3 h4 W;simp only[YAK] at T;generalize Zv a b d f=bs at *;have a4:=fun W (hk:kz w W)=>XU c bs (ha.keep hk) Z;have a5:=Blk.new w 383 #[zz,zz,zz,zz];have an:=JB a2;have G:=JB a3;clear a2 a3;go_enter func425,ntmps425
 go_wp2_with (
  (refine(a4 _ (kq.alloc _)).mono ?_)
  clear a4;rintro e w2 ⟨r,v,rfl,H,U⟩;have a6:=a5.kO U;clear a5)
 have a7:kz w w2:=(kq.alloc _).tO U;have i:w.heap.size<(w.alloc (.cells #[zz,zz,zz,zz] 383)).heap.size:=sq;generalize (w.alloc (.cells #[zz,zz,zz,zz] 383)).heap.size=base at *;have g:=ZP 2 H (by rw[JA an];omega)
 go_wp2_with (
  (refine g.mono ?_)
  clear g;rintro e w3 ⟨ut,rfl,-,I,V⟩)
 have a8:=Yk H V sq i a6;have a9:kz w w3:=a7.trans V (fun x h=>.inr (by have:=H.fresh x (by simp at h;simp[h]);omega));clear H a6 a7 U V;have g:=Vv (k:=1) (n:=a) [(1,75),(1,72)] [(4,b),(4,d),(4,f)] I (JA G) rfl Z Z
 go_wp2_with (
  (refine g.mono ?_)
  clear g;rintro e w4 ⟨rfl,aa,ab⟩;have C:=Yk I ab sq i a8;have q4:=C.frozen 0;obtain⟨p,s,y,z⟩:=YE C;have av:=C.lt;have J:=YV 0 (.int .i64 (a:Nat)) aa i C;have ac:=(a9.trans ab (fun x h=>.inr (by have:=I.fresh x (by simp at h;simp[h]);omega))).trans J.2.2 iq;have X:Blk (w4.setCell w.heap.size (.int .i64 (a:Nat))) w.heap.size 383 #[ii a,zz,zz,zz]:=J.2.1;have K:=J.1;obtain⟨j,l,m,o⟩:=YE X)
 clear q4 p s y z I a8 a9 aa C J j l m o;have g:=Vv (k:=4) (n:=b) [(1,75),(1,72),(1,a)] [(4,d),(4,f)] K (JA G) rfl Z Z
 go_wp2_with (
  (refine g.mono ?_)
  clear g;rintro e w5 ⟨rfl,ad,ae⟩;have D:=Yk K ae sq i X;have q5:=D.frozen 1;obtain⟨p,s,y,z⟩:=YE D;have aw:=D.lt;have L:=YV 1 (.int .i64 (b:Nat)) ad i D;have af:=(ac.trans ae (fun x h=>.inr (by have:=K.fresh x (by simp at h;simp[h]);omega))).trans L.2.2 iq;have Y:Blk (w5.setCell (aq w.heap.size 1) (.int .i64 (b:Nat))) w.heap.size 383 #[ii a,ii b,zz,zz]:=L.2.1;have M:=L.1;obtain⟨j,l,m,o⟩:=YE Y)
 clear q5 p s y z K X ac ad D L j l m o;have g:=Vv (k:=4) (n:=d) [(1,75),(1,72),(1,a),(4,b)] [(4,f)] M (JA G) rfl Z Z
 go_wp2_with (
  (refine g.mono ?_)
  clear g;rintro e w6 ⟨rfl,ag,ah⟩;have E:=Yk M ah sq i Y;have q6:=E.frozen 2;obtain⟨p,s,y,z⟩:=YE E;have ax:=E.lt;have N:=YV 2 (.int .i64 (d:Nat)) ag i E;have ai:=(af.trans ah (fun x h=>.inr (by have:=M.fresh x (by simp at h;simp[h]);omega))).trans N.2.2 iq;have a0:Blk (w6.setCell (aq w.heap.size 2) (.int .i64 (d:Nat))) w.heap.size 383 #[ii a,ii b,ii d,zz]:=N.2.1;have O:=N.1;obtain⟨j,l,m,o⟩:=YE a0)
 clear q6 p s y z M Y af ag E N j l m o;have g:=Vv (k:=4) (n:=f) [(1,75),(1,72),(1,a),(4,b),(4,d)] [] O (JA G) rfl Z Z
 go_wp2_with (
  (refine g.mono ?_)
  clear g;rintro e w7 ⟨rfl,aj,ak⟩;have F:=Yk O ak sq i a0;have q7:=F.frozen 3;obtain⟨p,s,y,z⟩:=YE F;have ay:=F.lt;have P:=YV 3 (.int .i64 (f:Nat)) aj i F;have ao:=(ai.trans ak (fun x h=>.inr (by have:=O.fresh x (by simp at h;simp[h]);omega))).trans P.2.2 iq;have al:Blk (w7.setCell (aq w.heap.size 3) (.int .i64 (f:Nat))) w.heap.size 383 #[ii a,ii b,ii d,ii f]:=P.2.1;have ap:=P.1;obtain⟨j,l,m,o⟩:=YE al)
 clear q7 p s y z O a0 ai aj F P
 go_wp2_with (
  (refine(T _).mono ?_)
  clear T;rintro e w9 ⟨u,rfl,hu,a1⟩;obtain⟨az,uc,rfl,_⟩:=ZB hu;have am:=ao.tO a1;have B:=al.kO a1;obtain⟨p,s,y,z⟩:=YE B;have f0:=B.frozen 0;have f1:=B.frozen 1;have f2:=B.frozen 2;have f3:=B.frozen 3;have b0:=B.lt;have ar:=JJ uc c bs bs (Rd.of_own hu) (ha.keep am))
 go_wp2_with (apply mq ar);have Q:=YV 0 (.int .i64 (a:Nat)) (ap.kO a1) i B;have R:=YV 1 (.int .i64 (b:Nat)) Q.1 i Q.2.1;have S:=YV 2 (.int .i64 (d:Nat)) R.1 i R.2.1;have z3:=YV 3 (.int .i64 (f:Nat)) S.1 i S.2.1;have au:=(((am.trans Q.2.2 iq).trans R.2.2 iq).trans S.2.2 iq).trans z3.2.2 iq;have j:=Q.2.1.cell 0;have l:=R.2.1.cell 1;have m:=S.2.1.cell 2;have o:=z3.2.1.cell 3;simp at j l m o;refine Af (v:=.tuple #[.agg #[ii a,ii b,ii d,ii f],zz]) (by simp[results,results425,go_sem,j,l,m,o]) rfl ?_;exact⟨rfl,au⟩
def put5 (w:World) (g:Nat) (x0 x1 x2 x3 x4:Value):World:=
 ((((w.setCell g x0).setCell (aq g 1) x1).setCell (aq g 2) x2).setCell (aq g 3) x3).setCell (aq g 4) x4
theorem Blk.put5 {g:Nat} {t:TypeId} {f i j k l:Value} (h:Blk w g t #[f,i,j,k,l]) (a b c d e:Value):Blk (Go.Proofs.YtfedaknhecbehaaGreat.put5 w g a b c d e) g t #[a,b,c,d,e]:=by
 have:=((((h.set 0 a).set 1 b).set 2 c).set 3 d).set 4 e;simpa [Go.Proofs.YtfedaknhecbehaaGreat.put5] using this
theorem Keep.put5 (w:World) (g:Nat) (a b c d e:Value):Keep [g] w (Go.Proofs.YtfedaknhecbehaaGreat.put5 w g a b c d e):=
 ((((((Keep.refl [g] w).sc g 0).sc g 1).sc g 2).sc g 3).sc g 4)
theorem QBo {k v s b c e d:Int} {n:Nat} (m:Nat) {xs:List UInt8} (F:Rd w A n (bys xs)) (S:n<=140737488355328) (G:k≠8) (H:k≠9) (I:FrMay k v s b c e d xs) :
 Calls prog 152 #[frv k v s b c e d (.slice A n m)] w fun r w'=>∃ u,r=.returned (.tuple #[.agg #[ii k,ii b,ii c,ii e,u],.bool true]) /\
  w'.ownsRow w.heap.size 5 1 u n (bys xs)/\kz w w':=by
 have J:=fun W (j:kz w W)=>JX m xs (F.keep j) S;have h:=fun W (j:kz w W)=>YAZ k v s b c e d m xs (F.keep j);rw[AJ I] at h;unfold frv at h;unfold frv;have L:=Blk.new w 211 #[ii k,ii v,ii s,ii b,ii c,ii e,ii d,.slice A n m];have M:=L.alloc (.cells #[zz,zz,zz,zz,zn] 95);have l:=Blk.new (w.alloc (.cells #[ii k,ii v,ii s,ii b,ii c,ii e,ii d,.slice A n m] 211)) 95 #[zz,zz,zz,zz,zn];rw[show (w.alloc (.cells #[ii k,ii v,ii s,ii b,ii c,ii e,ii d,.slice A n m] 211)).heap.size=w.heap.size+1 from sq] at l;have o:kz w ((w.alloc (.cells #[ii k,ii v,ii s,ii b,ii c,ii e,ii d,.slice A n m] 211)).alloc (.cells #[zz,zz,zz,zz,zn] 95)):=(kq.alloc _).alloc _;have N:=h _ o;have e8:(k == 8)=false:=uq G;have e9:(k == 9)=false:=uq H;clear h G H I;go_enter func152,ntmps152
 go_wp2_with (
  (refine N.mono ?_)
  clear N;rintro r p ⟨rfl,t⟩;have i:=M.kO t;have O:=l.kO t;have y:=o.tO t;obtain⟨T,U,V,X,Y,c5,c6,c7⟩:=XC i;have a1:=i.lt)
 have z:kz p p.drew:=kq.drew;obtain⟨d0,d1,d2,d3,d4,d5,d6,d7⟩:=XC (i.kO z);clear T U V X Y c5 c6 c7;refine ZT (fun w'=>cl w' w.heap.size (ii k)/\cl w' (aq w.heap.size 3) (ii b)/\cl w' (aq w.heap.size 4) (ii c)/\cl w' (aq w.heap.size 5) (ii e)/\cl w' (aq w.heap.size 7) (.slice A n m)) 11 [[0,1,2,3,4,5,6,7,8,9],[10]] ⟨d0,d3,d4,d5,d7⟩ ?_;simp only[PI];iterate 10 refine wG ?_
 refine YB rq (fun K a0=>?_);have P:=J _ (y.tO z)
 go_wp2_with (
  (refine P.mono ?_)
  clear P;rintro r Q ⟨u,rfl,B,f,_⟩;obtain⟨C,D,rfl,_⟩:=ZB B)
 replace f:kz p Q:=z.tO f;obtain⟨f0,f1,f2,f3,f4,f5,f6,f7⟩:=XC (i.kO f);refine a0 _ _ (⟨f0,f3,f4,f5,f7⟩) ?_
 try simp only[Act.put,PU]
 refine KB ?_;have a:=O.kO f;have a2:=a.lt;obtain⟨z0,z1,z2,z3,z4⟩:=QI a;have q0:=a.frozen 0;have q1:=a.frozen 1;have q2:=a.frozen 2;have q3:=a.frozen 3;have q4:=a.frozen 4;clear J L M l o
 go_wp2
 have R:=a.put5 (.int .i64 k) (.int .i64 b) (.int .i64 c) (.int .i64 e) (.slice C n D);have E:=Keep.put5 Q (w.heap.size+1) (.int .i64 k) (.int .i64 b) (.int .i64 c) (.int .i64 e) (.slice C n D);unfold put5 at R E;obtain⟨g0,g1,g2,g3,g4⟩:=QI R;refine Af (v:=.tuple #[.agg #[ii k,ii b,ii c,ii e,.slice C n D],.bool true]) (by simp[results,results152,go_sem,g0,g1,g2,g3,g4]) rfl ⟨_,rfl,?_,(y.tO f).trans E iq⟩;refine XB (ZC B (by have:=y.size;simpa using this)) E (fun g hg hm=>?_);have h1:=(own_mem B (g:=g) (uq hg)).1;have h2:=O.lt;simp at hm h1;omega