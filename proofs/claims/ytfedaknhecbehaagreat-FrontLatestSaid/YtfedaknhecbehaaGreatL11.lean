/- Lemmas of the proof, with their conditions. -/
import Derived.Test.YtfedaknhecbehaaGreatL09
import Derived.Lib.AppendZeros
namespace Go.Proofs.YtfedaknhecbehaaGreat
open Tryz Go.RowKit
variable {A:Option Addr} {n base m r:Nat} {ls:List (Value×List UInt8)} {w:World} {bs:List UInt8} {v:Value}
set_option linter.all false
set_option maxHeartbeats 4000000
set_option maxRecDepth 20000
theorem VBP (n:Nat) (j:1<=n) (k:n<=1000000) (w:World) :
 Calls prog 436 #[zn,n] w fun e w'=>∃ v,e=.returned v/\w'.ownsRow w.heap.size 5 1 v 0 (bys [])/\kz w w':=by
 have l:(0:Int)<(n:Nat):=Z;obtain⟨i,hi,f,m,g⟩:=elem8.info;have b:=Lib.run_append_nil_zeros (P:=prog) w 66 3 66 5 i (.int .u8 0) .i64 .i64 underlying66 underlying3 hi f n Z Z Z (by rw[g];omega);have h:=grownCap_ge w n 0 5;have c:=grownCap_le_maxLen w n 0 5 (by simp[maxLen];omega);obtain⟨a,d⟩:=ex (grownCap w n 0 5);rw[<- d] at b h c
 have o:(Builtin.zeroCells (Value.int .u8 0).cells n++Builtin.zeroCells (Value.int .u8 0).cells (a-n)).size=a:=by
  rw[Array.size_append,show (Value.int .u8 0).cells=#[Value.int .u8 0] from rfl,<- C2,<- C2,Qf,Qf];simp;omega
 generalize Builtin.zeroCells (Value.int .u8 0).cells n++Builtin.zeroCells (Value.int .u8 0).cells (a-n)=cs at *;clear d;go_enter func436,ntmps436;go_wp2_with (at_builtin;refine Lib.wpList_append_run _ rfl _ _ _ _ rfl _ _ rfl rfl _ _ b ?_);go_ret;refine⟨_,rfl,⟨sq,.inr ⟨w.heap.size,a,cs,rfl,AG _,?_,AS _,c,Z,by simp[bys]⟩⟩,(kq.drew.alloc _)⟩;exact(Blk.new w 5 cs).drew
theorem ZBD (c:Nat) (F:Rws w A n ls) (h0:1<=(ls.flatMap (·.2)).length) (a1:(ls.flatMap (·.2)).length<=1000000) (hn:n<=1000000) :
 Calls prog 389 #[.slice A n c] w fun e w'=>∃ u,e=.returned u/\w'.ownsRow w.heap.size 5 1 u (ls.flatMap (·.2)).length (bys (ls.flatMap (·.2)))/\kz w w':=by
 have M:=F.len;have t:=JB M
 have G:∀ k,((ls.take k).flatMap (·.2)).length<=(ls.flatMap (·.2)).length:=fun k=>by
  conv=>rhs;rw[<- Bp k ls,Az,AE]
  omega
 have N:∀ k (f:k<ls.length),(ls.take (k+1)).flatMap (·.2)=(ls.take k).flatMap (·.2)++ls[k].2:=fun k f=>by
  rw[AO f,Az];simp
 obtain⟨T,H⟩:=ex ((ls.flatMap (·.2)).length);have a2:=fun W=>VBP T Z Z W;rw[<- H] at a1 h0 G;have a3:=JB H;have O:=JB N;have P:=JB G;clear M H N G;go_enter func389,ntmps389;go_wp2_with fail;obtain⟨a,h⟩:∃ a:Nat->Nat,∀ k,a k=((ls.take k).flatMap (·.2)).length:=⟨_,fun _=>rfl⟩;have I:a 0=0:=by rw[h];simp
 have y:∀ k,a k<=T:=fun k=>by rw[h];exact JA P k
 have Q:a n=T:=by rw[h,AH (Ap (JA t)),<- JA a3]
 have R:∀ k (f:k<ls.length),a (k+1)=a k+ls[k].2.length:=fun k f=>by rw[h,h,JA O k f,AE]
 have a4:=JB R;have a5:=JB Q;clear R h Q;go_loopw [3,5,11] (fun z _ i wr=>∃ k:Nat,k<=n/\i=.int .i64 k/\z=.int .i64 (a k:Nat)/\kz w wr) (fun _ _ i _=>n-(intOf i).toNat)
 case atStart=>exact⟨0,AS _,rfl,by rw[I];rfl,kq⟩
 obtain⟨k,f,rfl,rfl,d⟩:=hrel;have a6:=y k;by_cases l:k<n
 . have m:k<ls.length:=by rw[JA t];exact l
   have a7:((k:Nat):Int)<(n:Nat):=Z;obtain⟨b,o,rfl,S,hc,J⟩:=(F.keep d).at_ l m;have r:=y (k+1);have K:=JA a4 k m;rw[K] at r;have U:=JB K;clear K;generalize ls[k]=p at *;obtain⟨pv,B⟩:=p;obtain⟨a8,C,V,s,h1,h2,D⟩:=J;simp only at s;subst s;have j:B.length=C:=uq D.1;simp only[j] at r U;clear j;generalize hq:a k=q at *;generalize a9:a (k+1)=q2 at *;clear hq I y;go_wp2_with fail;go_roundw;case rel=>exact⟨k+1,Z,by go_num,by rw[a9,U];go_num,d⟩
   case measure=>simp[intOf];omega
 obtain rfl:n=k:=Z;rw[JA a5];go_wp2_with (apply (a2 _).mono;rintro e w1 ⟨v,rfl,X,Y⟩);have g:=ZC X d.size;clear I y a6 X;obtain⟨i,hi,hz,hs,S⟩:=elem8.info;go_loopw [6,8,27] (fun v _ i wr=>∃ (k:Nat) (L:List UInt8),k<=n/\i=.int .i64 k/\Hid (L=(ls.take k).flatMap (·.2))/\wr.ownsRow w.heap.size 5 1 v L.length (bys L)/\kz w wr) (fun _ _ i _=>n-(intOf i).toNat)
 case atStart=>exact⟨0,[],AS _,rfl,by show _=_;simp,g,d.tO Y⟩
 clear g Y d;obtain⟨k,L,f,rfl,E,g,d⟩:=hrel;by_cases l:k<n
 . have m:k<ls.length:=by rw[JA t];exact l
   have a7:((k:Nat):Int)<(n:Nat):=Z;have a0:=JB ((JA O) k m);have r:=JA P (k+1);rw[JA a0,AE,<- JA E] at r;obtain⟨b,o,rfl,S,hc,J⟩:=(F.keep d).at_ l m;generalize ls[k]=p at *;obtain⟨pv,B⟩:=p;obtain⟨a8,C,V,s,h1,h2,D⟩:=J;simp only at s;subst s;have j:B.length=C:=uq D.1;simp only[j] at r;have aa:=JB j;clear j;have ae:=d.size;go_wp2_with (at_builtin;refine elem8.wp_app rfl (.tmp 31) (.tmp 32) rfl w.heap.size _ L.length (bys L) rfl g _ C V _ rfl D (fun u hu=>by obtain⟨q,_,rfl⟩:=Cv.1 hu;rfl) Z Z Z ?_;rintro af w2 ab ac _ _);go_roundw
   case rel=>
    refine⟨k+1,L++B,Z,by go_num,?_,by rw[AE,JA aa,Qj];exact ab,d.trans ac fun x hx=>.inr (own_mem g hx).1⟩;show _=_;rw[JA a0,<- JA E]
   case measure=>simp[intOf];omega
 obtain rfl:n=k:=Z;have e:L=ls.flatMap (·.2):=by rw[JA E,AH (Ap (JA t))]
 subst e;have ad:=JB g;clear g E
 go_wp2
 go_ret;exact⟨_,rfl,JA ad,d⟩
theorem XAf {c:Nat} {u:Value} {G:Option Addr}
 (b:w.ownsRow base 66 1 (.slice G (1+n) c) (1+n) ([u]++ls.map (·.1))) (d:Bts w u bs) (e:∀ p∈ls,Bts w p.1 p.2):Rws w G (1+n) ((u,bs) :: ls):=by
 refine⟨by have:=Rd.of_own b;simpa using this,fun p a=>?_⟩;rcases AM.1 a with rfl | a
 . exact d
 exact e p a
def ZAt (mount lsn prev:Nat) (is:List PItem) (m:Nat):List UInt8:=fields [(1,75),(1,82),(4,mount),(4,lsn),(4,prev),(1,is.length),(1,m)]++QR is
def Zg (mount lsn prev:Nat) (is:List PItem) (bls:List (List UInt8)):Nat:=QY (XY 60 (ZAt mount lsn prev is bls.length)++bls.flatten)
def JAt (mount lsn prev:Nat) (is:List PItem) (bls:List (List UInt8)):List UInt8:=XY 60 (ZAt mount lsn prev is bls.length)++le 4 (Zg mount lsn prev is bls)
@[simp] theorem length_recH (a b c:Nat) (is:List PItem) (m:Nat):(ZAt a b c is m).length=16+7*is.length:=by simp[ZAt,widths]
theorem JV (a b c:Nat) (is:List PItem) (d:List (List UInt8)) (h:is.length<=6):(JAt a b c is d).length=64:=by
 unfold JAt;rw[AE,length_le,length_zpad (by rw[length_recH];omega)]
theorem VBQ (a b c:Nat) (is:List PItem) (n m:Nat) (d:is.length=n) (e:n<=6) :
 ((((([]++[75,82].flatMap (le 1))++[a,b,c].flatMap (le 4))++[n,m].flatMap (le 1))++QR is)++List.replicate (44-7*n) 0)=XY 60 (ZAt a b c is m):=by
 unfold XY;rw[length_recH,d,show 60-(16+7*n)=44-7*n from Z]
 congr 1
 unfold ZAt;rw[d];simp[fields]
theorem ZAy (a b d:Nat) (h2:1<=a/\a<=2147483647) (h3:1<=b/\b<=2147483647) (h4:d<=4294967295) (g n c:Nat) (is:List PItem) (B:Nat)
 (ha:Rd w (some g) (n*4) (is.flatMap itc)) (Y:is.length=n) (hm:∀ i∈is,i.May) (h1:1<=n) (h6:n<=6) (C:Rws w A m ls) (a7:∀ p∈ls,p.2.length=64) (a8:m=ZG is) :
 Calls prog 330 #[.agg #[ii a,ii b,ii d,.slice (some g) n c,.slice A m B]] w fun e w'=>∃ u,e=.returned (.tuple #[u,(Zg a b d is (ls.map (·.2)):Nat),zz]) /\
  w'.ownsRow w.heap.size 5 1 u (JAt a b d is (ls.map (·.2))++ls.flatMap (·.2)).length (bys (JAt a b d is (ls.map (·.2))++ls.flatMap (·.2)))/\kz w w':=by
 have co:m<=6:=by have:=ZL is;omega
 have b6:(ls.flatMap (·.2)).length=64*m:=by
  rw[<- C.len];clear C a8
  induction ls with
  | nil=>rfl
  | cons p ls ih=>rw[At,AE,a7 p sq,ih (fun q hq=>a7 q (by simp[hq]))];simp;omega
 have bx:=JB b6;have a0:=JB Y;have b7:=JB C.len;have b8:=fun W (hk:kz w W)=>YAj a b d h2 h3 h4 g n c is B (ha.keep hk) Y hm h1 h6 (C.keep hk) a7 a8;have b9:=fun W (hk:kz w W)=>QAh g n c is (ha.keep hk) Y hm h6;have a9:=Blk.new w 280 #[ii a,ii b,ii d,.slice (some g) n c,.slice A m B];clear Y a8 b6;go_enter func330,ntmps330;obtain⟨w1,aa⟩:=ex (w.alloc (.cells #[ii a,ii b,ii d,.slice (some g) n c,.slice A m B] 280));have ba:kz w w1:=by rw[aa];exact kq.alloc _
 go_wp2_with (
  (refine(b8 _ (kq.alloc _)).mono ?_)
  clear b8;rintro e w2 ⟨rfl,ab⟩;rw[<- aa] at ab a9;clear aa;have bb:=ba.tO ab;have ac:=a9.kO ab;clear a9 ba;obtain⟨F,G,H,I,J⟩:=VD ac;have o:=ac.lt)
 go_wp2_with (
  (refine(b9 _ bb).mono ?_)
  clear b9;rintro e w3 ⟨ui,rfl,ad,bc⟩;have O:=bb.tO bc;have D:=ac.kO bc;clear F G H I J o)
 obtain⟨cp,bz,rfl,_⟩:=ZB ad;have bd:=YBo 64 Z w3;obtain⟨F,G,H,I,J⟩:=VD D;have o:=D.lt
 go_wp2_with (
  (refine bd.mono ?_)
  clear bd;rintro e w4 ⟨r,rv,rfl,ae,a1⟩;have c2:=D.kO a1;have c4:=QB ad a1;clear F G H I J o)
 have f:=QAO (k:=1) ae Z [75,82] sq sq sq #[ii 75,ii 82] rfl 2 rfl
 go_wp2_with (
  (refine f.mono ?_)
  clear f;rintro e w5 ⟨rfl,af,bf⟩;have ag:=a1.trans bf (fun x h=>.inr (ae.fresh x h));have ah:=D.kO ag;obtain⟨F,G,H,I,J⟩:=VD ah;have o:=ah.lt;clear ae bf c2 c4 a1)
 have f:=QAO (k:=4) af Z [a,b,d] (by simp;omega) sq (by simp[length_le]) #[ii a,ii b,ii d] rfl 3 rfl
 go_wp2_with (
  (refine f.mono ?_)
  clear f;rintro e w6 ⟨rfl,ai,bg⟩;have aj:=ag.trans bg (fun x h=>.inr (af.fresh x h));have ak:=D.kO aj;clear F G H I J o;obtain⟨F,G,H,I,J⟩:=VD ak;have o:=ak.lt;clear af bg ah ag)
 have f:=QAO (k:=1) ai Z [n,m] (by simp;omega) sq (by simp[length_le]) #[ii n,ii m] rfl 2 rfl
 go_wp2_with (
  (refine f.mono ?_)
  clear f;rintro e w7 ⟨rfl,al,bh⟩;have a2:=aj.trans bh (fun x h=>.inr (ai.fresh x h));have c5:=D.kO a2;clear F G H I J o;clear ai bh ak aj)
 have bi:=QB ad a2;have f:=XBt al bz (QR is) (Rd.of_own bi) (by simp[length_le];omega)
 go_wp2_with (
  (refine f.mono ?_)
  clear f;rintro e w8 ⟨rfl,am,bj⟩;have bk:=a2.trans bj (fun x h=>.inr (al.fresh x h));clear al bj c5 a2 bi)
 have bl:((44-7*n:Nat):Int)=44-((7*n:Nat):Int):=Z;have f:=YBr (m:=44-7*n) am (by simp[length_le];have:=JA a0;omega);rw[bl] at f;clear bl
 go_wp2_with (
  (refine f.mono ?_)
  clear f;rintro e w9 ⟨ut,rfl,an,bm⟩;have ao:=bk.trans bm (fun x h=>.inr (am.fresh x h));clear am bm bk)
 have ap:=D.kO ao;rw[VBQ a b d is n m (JA a0) h6] at an;have ar:(XY 60 (ZAt a b d is m)).length=60:=length_zpad (by rw[length_recH,JA a0];omega)
 have bn:∀ v:Value,QY (List.flatMap (·.2) ((v,(XY 64 (XY 60 (ZAt a b d is m))).take 60) :: ls))=Zg a b d is (ls.map (·.2)):=by
  intro v;rw[At];unfold Zg;rw[BR,JA b7,List.flatMap_def]
  congr 2
  unfold XY at ar ⊢;rw[List.take_left' ar]
 have bo:∀ L,L=Zg a b d is (ls.map (·.2))->XY 64 (XY 60 (ZAt a b d is m)++[L].flatMap (le 4))=JAt a b d is (ls.map (·.2)):=by
  intro L hs;rw[ZAO (by rw[AE,ar];simp[length_le]),hs];unfold JAt;rw[BR,JA b7];simp
 have bp:=JV a b d is (ls.map (·.2)) (by rw[JA a0];exact h6);generalize XY 60 (ZAt a b d is m)=H9 at *;have c6:=JB bn;have c7:=JB bo;clear bn bo;refine ZT (fun w'=>cl w' (aq w.heap.size 4) (.slice A m B)) 6 [[0,4,5],[1,2],[3]] (VD ap.drew).2.2.2.2 ?_;simp only[PI];iterate 3 refine wG ?_
 refine YB rq (fun K l=>?_)
 go_wp2_with (
  (refine(JAH (an.kO kq.drew)).mono ?_)
  rintro e s ⟨ub,rfl,a3,c8⟩)
 have c9:(XY 64 H9).length=64:=length_zpad Z;obtain⟨bs,au⟩:=ex (XY 64 H9);rw[<- au] at a3 c9;have ca:=JB au;clear au;obtain⟨P,M,rfl,cq⟩:=QN a3 Z;have j:kz w9 s:=kq.drew.tO c8;refine l _ _ ((VD (ap.kO j)).2.2.2.2) ?_
 try simp only[Act.put,PU]
 have cr:(60:Int)<=(M:Nat):=Z;iterate 1 refine wG ?_
 refine YB rq (fun K l=>?_);go_wp2_with fail;refine l _ _ ((VD ((ap.kO j).kO (kq.alloc _))).2.2.2.2) ?_
 try simp only[Act.put,PU]
 refine KB ?_;obtain⟨av,t⟩:=ex (s.alloc (.cells #[.slice (some P) 60 M] 66));have E:kz s av:=by rw[t];exact kq.alloc _
 have Q:av.ownsRow s.heap.size 66 1 (.slice (some s.heap.size) 1 1) 1 [.slice (some P) 60 M]:=by
  rw[t];exact XS (Blk.new s 66 #[.slice (some P) 60 M]) (AG _) Z sq sq
 have aw:s.heap.size<=av.heap.size:=E.size;rw[<- t];clear t;have R:=C.keep (((O.tO ao).tO j).tO E);go_wp2_with (at_builtin;refine elemRows.wp_app rfl (.tmp 51) (.tmp 53) rfl s.heap.size _ 1 _ rfl Q A m B (ls.map (·.1)) rfl R.1 (fun u T=>by obtain⟨p,N,rfl⟩:=Cv.1 T;obtain⟨_,_,_,e,_⟩:=R.2 p N;rw[e];rfl) Z Z aw ?_;rintro cb a4 S bq _ _);obtain⟨cc,vc,rfl,_⟩:=ZB S;have y:kz s a4:=E.trans bq (fun x h=>.inr (own_mem Q h).1);have ax:kz w3 a4:=(ao.tO j).tO y
 have br:Bts a4 (.slice (some P) 60 M) (bs.take 60):=by
  refine⟨_,_,_,rfl,Z,Z,?_⟩;have h1:=(Rd.of_own (QB a3 y)).take (k:=60) Z
  rwa [Zb] at h1
 have bt:Rws a4 cc (1+m) ((.slice (some P) 60 M,bs.take 60) :: ls):=XAf S br (fun p N=>(C.2 p N).keep (O.tO ax));have ay:=KAv vc bt Z;have o:=Kn (List.flatMap (·.2) ((.slice (some P) 60 M,bs.take 60) :: ls));rw[JA ca,JA c6] at ay o;obtain⟨L,az⟩:=ex (Zg a b d is (ls.map (·.2)));rw[<- az] at ay o;have bu:=JB az;clear az;go_wp2_with (apply mq ay);have b0:=an.kO (j.tO y);have f:=QAO (k:=4) b0 Z [L] (by simp;omega) sq (by simp;omega) #[ii L] rfl 1 rfl
 go_wp2_with (
  (refine f.mono ?_)
  clear f;rintro e bv ⟨rfl,cd,ce⟩)
 have b1:kz w3 bv:=ax.trans ce (fun x h=>.inr (b0.fresh x h));have U:=D.kO b1;clear b0 bt br S Q R a3 bq ax y E j;refine ZT (fun w'=>cl w' (aq w.heap.size 4) (.slice A m B)) 9 [[0,3,4,7],[1],[2],[5],[6,8]] (VD U.drew).2.2.2.2 ?_;simp only[PI];iterate 4 refine wG ?_
 refine YB rq (fun K l=>?_)
 go_wp2_with (
  (refine(JAH (cd.kO kq.drew)).mono ?_)
  rintro e z ⟨cs,rfl,a5,cf⟩)
 rw[JA c7 _ (JA bu)] at a5;obtain⟨b2,b3⟩:=ex (JAt a b d is (ls.map (·.2)));rw[<- b3] at a5 bp;have cg:=JB b3;clear b3;have ct:b2.length=64:=bp;have j:kz bv z:=kq.drew.tO cf;obtain⟨V,X,rfl,cu⟩:=QN a5 Z;refine l _ _ ((VD (U.kO j)).2.2.2.2) ?_
 try simp only[Act.put,PU]
 refine YB rq (fun K l=>?_);go_wp2_with fail;refine l _ _ ((VD ((U.kO j).kO (kq.alloc _))).2.2.2.2) ?_
 try simp only[Act.put,PU]
 obtain⟨b4,t⟩:=ex (z.alloc (.cells #[.slice (some V) 64 X] 66));have E:kz z b4:=by rw[t];exact kq.alloc _
 have Q:b4.ownsRow z.heap.size 66 1 (.slice (some z.heap.size) 1 1) 1 [.slice (some V) 64 X]:=by
  rw[t];exact XS (Blk.new z 66 #[.slice (some V) 64 X]) (AG _) Z sq sq
 have aw:z.heap.size<=b4.heap.size:=E.size;rw[<- t];clear t;have R:=C.keep (((O.tO b1).tO j).tO E);refine YB rq (fun K l=>?_);refine elemRows.wp1_app (.tmp 62) (.tmp 64) rq z.heap.size _ 1 _ rq Q A m B (ls.map (·.1)) rq R.1 (fun u T=>by obtain⟨p,N,rfl⟩:=Cv.1 T;obtain⟨_,_,_,e,_⟩:=R.2 p N;rw[e];rfl) Z Z aw ?_;intro cb a6 S ch _ _;obtain⟨ci,cj,rfl,_⟩:=ZB S;have y:kz z a6:=E.trans ch (fun x h=>.inr (own_mem Q h).1);refine l _ _ ((VD ((U.kO j).kO y)).2.2.2.2) ?_
 try simp only[Act.put,PU]
 have ck:Bts a6 (.slice (some V) 64 X) b2:=⟨_,_,_,rfl,Z,Z,Rd.of_own (QB a5 y)⟩;have b5:kz w3 a6:=(b1.tO j).tO y;have cm:Rws a6 ci (1+m) ((.slice (some V) 64 X,b2) :: ls):=XAf S ck (fun p N=>(C.2 p N).keep (O.tO b5));have cn:=ZBD cj cm (by rw[At,AE];simp only;omega) (by rw[At,AE,JA bx];simp only;omega) Z;refine YB rq (fun K l=>?_);go_wp2_with (apply cn.mono;rintro e cv ⟨u,rfl,T,bw⟩);refine l _ _ ((VD (((U.kO j).kO y).kO bw)).2.2.2.2) ?_;iterate 1 refine wG ?_
 refine KB ?_;go_wp2_with fail;refine Af (v:=.tuple #[u,(L:Nat),zz]) (by simp[results,results330,go_sem]) rfl ?_;rw[<- JA cg,<- JA bu];exact⟨u,rfl,ZC T (O.tO b5).size,(O.tO b5).tO bw⟩
theorem QAy (b c d:Nat) (is:List PItem) (a:List (List UInt8)):Zg b c d is a<=4294967295:=by
 unfold Zg;have:=Kn (XY 60 (ZAt b c d is a.length)++a.flatten);omega
structure RecAs (mount lsn prev:Nat) (is:List PItem) (bls:List (List UInt8)) (rs:List UInt8) (sum:Nat):Prop where
 len:rs.length=64
 eq:rs=JAt mount lsn prev is bls
 sm:sum=Zg mount lsn prev is bls
theorem JAk (a b d:Nat) (k:1<=a/\a<=2147483647) (l:1<=b/\b<=2147483647) (o:d<=4294967295) (g n c:Nat) (is:List PItem) (j:Nat)
 (r:Rd w (some g) (n*4) (is.flatMap itc)) (s:is.length=n) (t:∀ i∈is,i.May) (v:1<=n) (y:n<=6) (z:Rws w A m ls) (B:∀ p∈ls,p.2.length=64) (C:m=ZG is) :
 Calls prog 330 #[.agg #[ii a,ii b,ii d,.slice (some g) n c,.slice A m j]] w fun e w'=>∃ u f h,e=.returned (.tuple #[u,(h:Nat),zz])/\RecAs a b d is (ls.map (·.2)) f h/\h<=4294967295 /\
  w'.ownsRow w.heap.size 5 1 u (f++ls.flatMap (·.2)).length (bys (f++ls.flatMap (·.2)))/\kz w w':=
 (ZAy a b d k l o g n c is j r s t v y z B C).mono fun e w' ⟨u,D,E,F⟩=>⟨u,_,_,D,⟨JV _ _ _ _ _ Z,rfl,rfl⟩,QAy _ _ _ _ _,E,F⟩
def VAy (mount lsn prev n m:Nat):List (Nat×Nat):=[(1,75),(1,82),(4,mount),(4,lsn),(4,prev),(1,n),(1,m)]
theorem KAg (t:List UInt8) (d f i n m:Nat) (E:RowAt w base r v bs 0) (b:bs=fields (VAy d f i n m)++t) (P:1<=n) (Q:n<=6) (p:m<=n) :
 Calls prog 449 #[pq r] w fun e w'=>e=.returned (.tuple #[n,m,.bool true])/\RowAt w' base r v bs 16/\Keep [r] w w':=by
 have F:16<=bs.length:=by rw[b];simp[VAy,widths]
 have j:=ZP 2 E Z;have G:=fun W (h:RowAt W base r v bs (0+2))=>ZP 12 h Z;have H:=fun W (h:RowAt W base r v bs (0+2+12))=>Vv (k:=1) (n:=n) (t:=t) [(1,75),(1,82),(4,d),(4,f),(4,i)] [(1,m)] h (by rw[b];rfl) (by simp[widths]) Z Z;have I:=fun W (h:RowAt W base r v bs (0+2+12+1))=>Vv (k:=1) (n:=m) (t:=t) [(1,75),(1,82),(4,d),(4,f),(4,i),(1,n)] [] h (by rw[b];rfl) (by simp[widths]) Z Z;have s:(bs.drop 0).take 2=[75,82]:=by rw[b];simp[VAy,fields,le]
 rw[s] at j;have y:=fun W=>Jd n 1 6 W ⟨Z,Z⟩;have R:((m:Nat):Int)<=(n:Nat):=Z;clear s b F;go_enter func449,ntmps449;go_wp2_with (refine j.mono ?_;clear j;rintro e w1 ⟨u,rfl,l,z,J⟩);have a:=G _ z;go_wp2_with (refine a.mono ?_;clear a;rintro e S ⟨T,rfl,-,K,A⟩);have a:=H _ K;go_wp2_with (refine a.mono ?_;clear a;rintro e U ⟨rfl,L,B⟩);have a:=I _ L;obtain⟨g,C,rfl,_⟩:=QN l Z;have V:r≠g:=fun e=>own_blk_ne l z.blk (by decide) (by rw[e];rfl);have o:∀ q,(Value.slice (some g) 2 C).ownBlock=some q->q∉[r]:=fun q M p=>by simp[Value.ownBlock] at M p;omega
 go_wp2_with (first
  | (go_at_call 258
     refine a.mono ?_;clear a;rintro e X ⟨rfl,N,D⟩;have O:=XB (XB (XB l A o) B o) D o
     have Y:=Qk C [75,82] (Rd.of_own O))
  | (go_at_call 432;apply mq (y _);clear y))
 go_ret3;exact⟨rfl,N,((J.trans A (fun x c=>.inl c)).trans B (fun x c=>.inl c)).trans D (fun x c=>.inl c)⟩
theorem XBT (c:Nat) (bs t:List UInt8) (a b d n m:Nat) (f:Rd w A 64 (bys bs)) (g:bs=fields (VAy a b d n m)++t) (o:1<=n) (p:n<=6) (s:m<=n) :
 cr 427 #[.slice A 64 c] w (ii (1+(m:Nat))):=by
 have i:=XU c bs f Z;have j:=fun W r v (h:RowAt W w.heap.size r v bs 0)=>KAg t a b d n m h g o p s;clear g f;go_enter func427,ntmps427
 go_wp2_with (first
  | (go_at_call 256;refine i.mono ?_;clear i;rintro e w1 ⟨r,v,rfl,k,u⟩;(have l:=j _ _ _ k);clear j)
  | (go_at_call 449;refine l.mono ?_;clear l;rintro e B ⟨rfl,C,y⟩))
 go_ret;exact⟨rfl,u.trans y (fun x z=>.inr (by simp at z;have:=k.base;omega))⟩
def VU (bs:List UInt8):Prop:=¬ (bs[0]? = some 75/\bs[1]? = some 82)
theorem QBH (M:RowAt w base r v bs 0) (o:bs.length=64) (s:VU bs) :
 Calls prog 449 #[pq r] w fun e w'=>∃ x y:Int,e=.returned (.tuple #[ii x,ii y,.bool false])/\Keep [r] w w':=by
 have j:=ZP 2 M Z;have N:=fun W (h:RowAt W base r v bs (0+2))=>ZP 12 h Z;have z:=fun W (h:RowAt W base r v bs (0+2+12))=>Xa 1 h Z Z;have A:=fun W (h:RowAt W base r v bs (0+2+12+1))=>Xa 1 h Z Z;obtain⟨p,i⟩:∃ p,bs[0]? = some p:=⟨bs[0],sq⟩;obtain⟨q,d⟩:∃ q,bs[1]? = some q:=⟨bs[1],sq⟩
 have B:(bs.drop 0).take 2=[p,q]:=by
  obtain⟨_,_,t,rfl⟩:∃ p q t,bs=p :: q :: t:=by
   match bs,o with
   | a :: b :: t,_=>exact⟨a,b,t,rfl⟩
  simp at i d;subst i d;rfl
 have C:¬ (p=75/\q=82):=fun⟨O,P⟩=>s ⟨by rw[i,O],by rw[d,P]⟩;rw[B] at j;obtain⟨D,E⟩:∃ D,D=num ((bs.drop (0+2+12)).take 1):=⟨_,rfl⟩;obtain⟨F,G⟩:∃ F,F=num ((bs.drop (0+2+12+1)).take 1):=⟨_,rfl⟩;rw[<- E] at z;rw[<- G] at A;obtain⟨k,l⟩:∃ k:ByteArray,k=⟨[p,q].toArray⟩:=⟨_,rfl⟩
 have Y:(k.toList == [75,82])=false:=by
  rw[l,ByteArray.toList_mk];simp only[beq_eq_false_iff_ne,ne_eq,List.cons.injEq,and_true];exact C
 have Q:=JB l;clear s o i d B E G C l;go_enter func449,ntmps449;go_wp2_with (refine j.mono ?_;clear j;rintro e w1 ⟨u,rfl,m,H,R⟩);have c:=N _ H;go_wp2_with (refine c.mono ?_;clear c;rintro e w2 ⟨u2,rfl,-,S,I⟩);have c:=z _ S;go_wp2_with (refine c.mono ?_;clear c;rintro e w3 ⟨rfl,T,J⟩);have c:=A _ T;obtain⟨g,K,rfl,_⟩:=QN m Z;have a0:r≠g:=fun e=>own_blk_ne m H.blk (by decide) (by rw[e];rfl);have n:∀ q,(Value.slice (some g) 2 K).ownBlock=some q->q∉[r]:=fun q d U=>by simp[Value.ownBlock] at d U;omega
 go_wp2_with (
  (go_at_call 258
   refine c.mono ?_;clear c;rintro e w4 ⟨rfl,a1,L⟩;have V:=XB (XB (XB m I n) J n) L n;have X:=Qk K [p,q] (Rd.of_own V);rw[<- JA Q] at X))
 all_goals
  go_ret3;exact⟨_,_,rfl,((R.trans I (fun x f=>.inl f)).trans J (fun x f=>.inl f)).trans L (fun x f=>.inl f)⟩
theorem QAz (c:Nat) (a:Rd w A 64 (bys bs)) (b:VU bs) :
 cr 427 #[.slice A 64 c] w zz:=by
 have d:bs.length=64:=by have:=a.1;simpa using this
 have f:=XU c bs a Z;have g:=fun W r v (h:RowAt W w.heap.size r v bs 0)=>QBH h d b;clear a b d;go_enter func427,ntmps427
 go_wp2_with (first
  | (go_at_call 256;refine f.mono ?_;clear f;rintro e w1 ⟨r,v,rfl,i,k⟩;(have j:=g _ _ _ i);clear g)
  | (go_at_call 449;refine j.mono ?_;clear j;rintro e n ⟨x,y,rfl,l⟩))
 go_ret;exact⟨rfl,k.trans l (fun x m=>.inr (by simp at m;have:=i.base;omega))⟩
theorem ZAd (x:Int):VU (VR x):=by
 rintro⟨a,b⟩;unfold VR Zd at a b;rw[Aa,DF Z] at a b;simp only[Ao,Ae] at a b;have c:=congrArg UInt8.toNat a;have d:=congrArg UInt8.toNat b;rw[Cd] at c d;simp at c d;omega