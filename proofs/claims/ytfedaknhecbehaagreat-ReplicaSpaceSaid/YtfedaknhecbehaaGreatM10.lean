/- Lemmas of the proof, with their conditions. -/
import Derived.Test.YtfedaknhecbehaaGreatM09
import Derived.Lib.AppendZeros
namespace Go.Proofs.YtfedaknhecbehaaGreat
open Tryz Go.RowKit
variable {A:Option Addr} {n base m r:Nat} {ls:List (Value×List UInt8)} {w:World} {bs:List UInt8} {v:Value}
set_option linter.all false
set_option maxHeartbeats 4000000
set_option maxRecDepth 20000
theorem ZBM (n:Nat) (h:1<=n) (j:n<=1000000) (w:World) :
 Calls prog 436 #[zn,n] w fun e w'=>∃ v,e=.returned v/\w'.ownsRow w.heap.size 5 1 v 0 (bys [])/\kz w w':=by
 have k:(0:Int)<(n:Nat):=Z
 obtain⟨i,hi,d,l,f⟩:=elem8.info;have a:=Lib.run_append_nil_zeros (P:=prog) w 66 3 66 5 i (.int .u8 0) .i64 .i64 underlying66 underlying3 hi d n Z Z Z (by rw[f];omega);have g:=grownCap_ge w n 0 5;have b:=grownCap_le_maxLen w n 0 5 (by simp[maxLen];omega);obtain⟨cp,c⟩:=ex (grownCap w n 0 5);rw[<- c] at a g b
 have m:(Builtin.zeroCells (Value.int .u8 0).cells n++Builtin.zeroCells (Value.int .u8 0).cells (cp-n)).size=cp:=by
  rw[Array.size_append,show (Value.int .u8 0).cells=#[Value.int .u8 0] from rfl,<- C5,<- C5,Yd,Yd];simp;omega
 generalize Builtin.zeroCells (Value.int .u8 0).cells n++Builtin.zeroCells (Value.int .u8 0).cells (cp-n)=cs at *;clear c;go_enter func436,ntmps436;go_wp2_with (at_builtin;refine Lib.wpList_append_run _ rfl _ _ _ _ rfl _ _ rfl rfl _ _ a ?_);go_ret;refine⟨_,rfl,⟨sq,.inr ⟨w.heap.size,cp,cs,rfl,AG _,?_,AP _,b,Z,by simp[bys]⟩⟩,(kq.drew.alloc _)⟩;exact(Blk.new w 5 cs).drew
theorem XAu (c:Nat) (F:Rws w A n ls) (h0:1<=(ls.flatMap (·.2)).length) (a1:(ls.flatMap (·.2)).length<=1000000) (hn:n<=1000000) :
 Calls prog 389 #[.slice A n c] w fun e w'=>∃ u,e=.returned u/\w'.ownsRow w.heap.size 5 1 u (ls.flatMap (·.2)).length (bys (ls.flatMap (·.2)))/\kz w w':=by
 have M:=F.len;have t:=ZB M
 have G:∀ k,((ls.take k).flatMap (·.2)).length<=(ls.flatMap (·.2)).length:=fun k=>by
  conv=>rhs;rw[<- CZ k ls,BM,AE]
  omega
 have N:∀ k (f:k<ls.length),(ls.take (k+1)).flatMap (·.2)=(ls.take k).flatMap (·.2)++ls[k].2:=fun k f=>by
  rw[AO f,BM];simp
 obtain⟨T,H⟩:=ex ((ls.flatMap (·.2)).length);have a2:=fun W=>ZBM T Z Z W;rw[<- H] at a1 h0 G;have a3:=ZB H;have O:=ZB N;have P:=ZB G;clear M H N G;go_enter func389,ntmps389;go_wp2_with fail;obtain⟨a,h⟩:∃ a:Nat->Nat,∀ k,a k=((ls.take k).flatMap (·.2)).length:=⟨_,fun _=>rfl⟩;have I:a 0=0:=by rw[h];simp
 have y:∀ k,a k<=T:=fun k=>by rw[h];exact ZA P k
 have Q:a n=T:=by rw[h,AK (Ar (ZA t)),<- ZA a3]
 have R:∀ k (f:k<ls.length),a (k+1)=a k+ls[k].2.length:=fun k f=>by rw[h,h,ZA O k f,AE]
 have a4:=ZB R;have a5:=ZB Q;clear R h Q;go_loopw [3,5,11] (fun z _ i wr=>∃ k:Nat,k<=n/\i=.int .i64 k/\z=.int .i64 (a k:Nat)/\kz w wr) (fun _ _ i _=>n-(intOf i).toNat)
 case atStart=>exact⟨0,AP _,rfl,by rw[I];rfl,kq⟩
 obtain⟨k,f,rfl,rfl,d⟩:=hrel;have a6:=y k;by_cases l:k<n
 . have m:k<ls.length:=by rw[ZA t];exact l
   have a7:((k:Nat):Int)<(n:Nat):=Z
   obtain⟨b,o,rfl,S,hc,J⟩:=(F.keep d).at_ l m;have r:=y (k+1);have K:=ZA a4 k m;rw[K] at r;have U:=ZB K;clear K;generalize ls[k]=p at *;obtain⟨pv,B⟩:=p;obtain⟨a8,C,V,s,h1,h2,D⟩:=J;simp only at s;subst s;have j:B.length=C:=uq D.1
   simp only[j] at r U;clear j;generalize hq:a k=q at *;generalize a9:a (k+1)=q2 at *;clear hq I y;go_wp2_with fail;go_roundw;case rel=>exact⟨k+1,Z,by go_num,by rw[a9,U];go_num,d⟩
   case measure=>simp[intOf];omega
 obtain rfl:n=k:=Z
 rw[ZA a5];go_wp2_with (refine(a2 _).mono ?_;rintro e w1 ⟨v,rfl,X,Y⟩);have g:=VC X d.size;clear I y a6 X;obtain⟨i,hi,hz,hs,S⟩:=elem8.info;go_loopw [6,8,27] (fun v _ i wr=>∃ (k:Nat) (L:List UInt8),k<=n/\i=.int .i64 k/\Hid (L=(ls.take k).flatMap (·.2))/\wr.ownsRow w.heap.size 5 1 v L.length (bys L)/\kz w wr) (fun _ _ i _=>n-(intOf i).toNat)
 case atStart=>exact⟨0,[],AP _,rfl,by show _=_;simp,g,d.tO Y⟩
 clear g Y d;obtain⟨k,L,f,rfl,E,g,d⟩:=hrel;by_cases l:k<n
 . have m:k<ls.length:=by rw[ZA t];exact l
   have a7:((k:Nat):Int)<(n:Nat):=Z
   have a0:=ZB ((ZA O) k m);have r:=ZA P (k+1);rw[ZA a0,AE,<- ZA E] at r;obtain⟨b,o,rfl,S,hc,J⟩:=(F.keep d).at_ l m;generalize ls[k]=p at *;obtain⟨pv,B⟩:=p;obtain⟨a8,C,V,s,h1,h2,D⟩:=J;simp only at s;subst s;have j:B.length=C:=uq D.1
   simp only[j] at r;have aa:=ZB j;clear j;have ae:=d.size;go_wp2_with (at_builtin;refine elem8.wp_app rfl (.tmp 31) (.tmp 32) rfl w.heap.size _ L.length (bys L) rfl g _ C V _ rfl D (fun u hu=>by obtain⟨q,_,rfl⟩:=C8.1 hu;rfl) Z Z Z ?_;rintro af w2 ab ac _ _);go_roundw
   case rel=>
    refine⟨k+1,L++B,Z,by go_num,?_,by rw[AE,ZA aa,Zq];exact ab,d.trans ac fun x hx=>.inr (own_mem g hx).1⟩;show _=_;rw[ZA a0,<- ZA E]
   case measure=>simp[intOf];omega
 obtain rfl:n=k:=Z
 have e:L=ls.flatMap (·.2):=by rw[ZA E,AK (Ar (ZA t))]
 subst e;have ad:=ZB g;clear g E
 go_wp2
 go_ret;exact⟨_,rfl,ZA ad,d⟩
theorem Rws.keepN {w':World} (h:Rws w A n ls) (a:kz w w'):Rws w' A n ls:=h.keep a
theorem ZAZ {c:Nat} {u:Value} {G:Option Addr}
 (b:w.ownsRow base 66 1 (.slice G (1+n) c) (1+n) ([u]++ls.map (·.1))) (d:Bts w u bs) (e:∀ p∈ls,Bts w p.1 p.2):Rws w G (1+n) ((u,bs) :: ls):=by
 refine⟨by have:=Rd.of_own b;simpa using this,fun p a=>?_⟩;rcases AL.1 a with rfl | a
 . exact d
 exact e p a
def VAn (mount lsn prev:Nat) (is:List PItem) (m:Nat):List UInt8:=fields [(1,75),(1,82),(4,mount),(4,lsn),(4,prev),(1,is.length),(1,m)]++YQ is
def Vd (mount lsn prev:Nat) (is:List PItem) (bls:List (List UInt8)):Nat:=KM (QY 60 (VAn mount lsn prev is bls.length)++bls.flatten)
def YAn (mount lsn prev:Nat) (is:List PItem) (bls:List (List UInt8)):List UInt8:=QY 60 (VAn mount lsn prev is bls.length)++le 4 (Vd mount lsn prev is bls)
@[simp] theorem length_recH (a b c:Nat) (is:List PItem) (m:Nat):(VAn a b c is m).length=16+7*is.length:=by simp[VAn,widths]
theorem QV (a b c:Nat) (is:List PItem) (d:List (List UInt8)) (h:is.length<=6):(YAn a b c is d).length=64:=by
 unfold YAn;rw[AE,length_le,length_zpad (by rw[length_recH];omega)]
theorem VBJ (a b c:Nat) (is:List PItem) (n m:Nat) (d:is.length=n) (e:n<=6) :
 ((((([]++[75,82].flatMap (le 1))++[a,b,c].flatMap (le 4))++[n,m].flatMap (le 1))++YQ is)++List.replicate (44-7*n) 0)=QY 60 (VAn a b c is m):=by
 unfold QY;rw[length_recH,d,show 60-(16+7*n)=44-7*n from Z]
 congr 1
 unfold VAn;rw[d];simp[fields]
theorem KAw (a b d:Nat) (h2:1<=a/\a<=2147483647) (h3:1<=b/\b<=2147483647) (h4:d<=4294967295) (g n c:Nat) (is:List PItem) (B:Nat)
 (ha:Rd w (some g) (n*4) (is.flatMap itc)) (Y:is.length=n) (hm:∀ i∈is,i.May) (h1:1<=n) (h6:n<=6) (C:Rws w A m ls) (a8:∀ p∈ls,p.2.length=64) (a9:m=ZG is) :
 Calls prog 330 #[.agg #[ii a,ii b,ii d,.slice (some g) n c,.slice A m B]] w fun e w'=>∃ u,e=.returned (.tuple #[u,(Vd a b d is (ls.map (·.2)):Nat),zz]) /\
  w'.ownsRow w.heap.size 5 1 u (YAn a b d is (ls.map (·.2))++ls.flatMap (·.2)).length (bys (YAn a b d is (ls.map (·.2))++ls.flatMap (·.2)))/\kz w w':=by
 have co:m<=6:=by have:=YK is;omega
 have b6:(ls.flatMap (·.2)).length=64*m:=by
  rw[<- C.len];clear C a9
  induction ls with
  | nil=>rfl
  | cons p ls ih=>rw[BE,AE,a8 p sq,ih (fun q hq=>a8 q (by simp[hq]))];simp;omega
 have bz:=ZB b6;have a0:=ZB Y;have b7:=ZB C.len;have b8:=fun W (hk:kz w W)=>JAf a b d h2 h3 h4 g n c is B (ha.keep hk) Y hm h1 h6 (C.keep hk) a8 a9;have b9:=fun W (hk:kz w W)=>XAY g n c is (ha.keep hk) Y hm h6;have aa:=Blk.new w 280 #[ii a,ii b,ii d,.slice (some g) n c,.slice A m B];clear Y a9 b6;go_enter func330,ntmps330;obtain⟨w1,ab⟩:=ex (w.alloc (.cells #[ii a,ii b,ii d,.slice (some g) n c,.slice A m B] 280));have ba:kz w w1:=by rw[ab];exact kq.alloc _
 go_wp2_with (
  (refine(b8 _ (kq.alloc _)).mono ?_)
  clear b8;rintro e w2 ⟨rfl,ac⟩;rw[<- ab] at ac aa;clear ab;have bb:=ba.tO ac;have ad:=aa.kO ac;clear aa ba;obtain⟨F,G,H,I,J⟩:=VD ad;have o:=ad.lt)
 go_wp2_with (
  (refine(b9 _ bb).mono ?_)
  clear b9;rintro e w3 ⟨ui,rfl,ae,bc⟩;have O:=bb.tO bc;have D:=ad.kO bc;clear F G H I J o)
 obtain⟨cp,c2,rfl,_⟩:=XB ae;have bd:=ZBi 64 Z w3;obtain⟨F,G,H,I,J⟩:=VD D;have o:=D.lt
 go_wp2_with (
  (refine bd.mono ?_)
  clear bd;rintro e w4 ⟨r,rv,rfl,af,a1⟩;have c4:=D.kO a1;have c5:=QB ae a1;clear F G H I J o)
 have f:=JAJ (k:=1) af Z [75,82] sq sq sq #[ii 75,ii 82] rfl 2 rfl
 go_wp2_with (
  (refine f.mono ?_)
  clear f;rintro e w5 ⟨rfl,ag,bf⟩;have ah:=a1.trans bf (fun x h=>.inr (af.fresh x h));have ai:=D.kO ah;obtain⟨F,G,H,I,J⟩:=VD ai;have o:=ai.lt;clear af bf c4 c5 a1)
 have f:=JAJ (k:=4) ag Z [a,b,d] (by simp;omega) sq (by simp[length_le]) #[ii a,ii b,ii d] rfl 3 rfl
 go_wp2_with (
  (refine f.mono ?_)
  clear f;rintro e w6 ⟨rfl,aj,bg⟩;have ak:=ah.trans bg (fun x h=>.inr (ag.fresh x h));have al:=D.kO ak;clear F G H I J o;obtain⟨F,G,H,I,J⟩:=VD al;have o:=al.lt;clear ag bg ai ah)
 have f:=JAJ (k:=1) aj Z [n,m] (by simp;omega) sq (by simp[length_le]) #[ii n,ii m] rfl 2 rfl
 go_wp2_with (
  (refine f.mono ?_)
  clear f;rintro e w7 ⟨rfl,am,bh⟩;have a2:=ak.trans bh (fun x h=>.inr (aj.fresh x h));have c6:=D.kO a2;clear F G H I J o;clear aj bh al ak)
 have bi:=QB ae a2;have f:=KBp am c2 (YQ is) (Rd.of_own bi) (by simp[length_le];omega)
 go_wp2_with (
  (refine f.mono ?_)
  clear f;rintro e w8 ⟨rfl,an,bj⟩;have bk:=a2.trans bj (fun x h=>.inr (am.fresh x h));clear am bj c6 a2 bi)
 have bl:((44-7*n:Nat):Int)=44-((7*n:Nat):Int):=Z
 have f:=KBo (m:=44-7*n) an (by simp[length_le];have:=ZA a0;omega);rw[bl] at f;clear bl
 go_wp2_with (
  (refine f.mono ?_)
  clear f;rintro e w9 ⟨ut,rfl,ao,bm⟩;have ap:=bk.trans bm (fun x h=>.inr (an.fresh x h));clear an bm bk)
 have ar:=D.kO ap;rw[VBJ a b d is n m (ZA a0) h6] at ao;have au:(QY 60 (VAn a b d is m)).length=60:=length_zpad (by rw[length_recH,ZA a0];omega)
 have bn:∀ v:Value,KM (List.flatMap (·.2) ((v,(QY 64 (QY 60 (VAn a b d is m))).take 60) :: ls))=Vd a b d is (ls.map (·.2)):=by
  intro v;rw[BE];unfold Vd;rw[CJ,ZA b7,List.flatMap_def]
  congr 2
  unfold QY at au ⊢;rw[Dq au]
 have bo:∀ L,L=Vd a b d is (ls.map (·.2))->QY 64 (QY 60 (VAn a b d is m)++[L].flatMap (le 4))=YAn a b d is (ls.map (·.2)):=by
  intro L hs;rw[KAO (by rw[AE,au];simp[length_le]),hs];unfold YAn;rw[CJ,ZA b7];simp
 have bp:=QV a b d is (ls.map (·.2)) (by rw[ZA a0];exact h6);generalize QY 60 (VAn a b d is m)=H9 at *;have c7:=ZB bn;have c8:=ZB bo;clear bn bo;refine ZT (fun w'=>cl w' (aq w.heap.size 4) (.slice A m B)) 6 [[0,4,5],[1,2],[3]] (VD ar.drew).2.2.2.2 ?_;simp only[PI];iterate 3 refine wG ?_
 refine JB rq fun K l=>?_
 go_wp2_with (
  (refine(ZAD (ao.kO kq.drew)).mono ?_)
  rintro e s ⟨ub,rfl,a3,c9⟩)
 have ca:(QY 64 H9).length=64:=length_zpad Z;obtain⟨bs,av⟩:=ex (QY 64 H9);rw[<- av] at a3 ca;have cb:=ZB av;clear av;obtain⟨P,M,rfl,cq⟩:=JI a3 Z;have j:kz w9 s:=kq.drew.tO c9;refine l _ _ ((VD (ar.kO j)).2.2.2.2) ?_
 try simp only[Act.put,PU]
 have cr:(60:Int)<=(M:Nat):=Z
 iterate 1 refine wG ?_
 refine JB rq fun K l=>?_;go_wp2_with fail;refine l _ _ ((VD ((ar.kO j).kO (kq.alloc _))).2.2.2.2) ?_
 try simp only[Act.put,PU]
 refine VB ?_;obtain⟨aw,t⟩:=ex (s.alloc (.cells #[.slice (some P) 60 M] 66));have E:kz s aw:=by rw[t];exact kq.alloc _
 have Q:aw.ownsRow s.heap.size 66 1 (.slice (some s.heap.size) 1 1) 1 [.slice (some P) 60 M]:=by
  rw[t];exact QR (Blk.new s 66 #[.slice (some P) 60 M]) (AG _) Z sq sq
 have ax:s.heap.size<=aw.heap.size:=E.size;rw[<- t];clear t;have R:=C.keep (((O.tO ap).tO j).tO E);go_wp2_with (at_builtin;refine elemRows.wp_app rfl (.tmp 51) (.tmp 53) rfl s.heap.size _ 1 _ rfl Q A m B (ls.map (·.1)) rfl R.1 (fun u T=>by obtain⟨p,N,rfl⟩:=C8.1 T;obtain⟨_,_,_,e,_⟩:=R.2 p N;rw[e];rfl) Z Z ax ?_;rintro cc a4 S bq _ _);obtain⟨cd,vc,rfl,_⟩:=XB S;have y:kz s a4:=E.trans bq (fun x h=>.inr (own_mem Q h).1);have ay:kz w3 a4:=(ap.tO j).tO y
 have br:Bts a4 (.slice (some P) 60 M) (bs.take 60):=by
  refine⟨_,_,_,rfl,Z,Z,?_⟩;have h1:=(Rd.of_own (QB a3 y)).take (k:=60) Z
  rwa [ZV] at h1
 have bt:Rws a4 cd (1+m) ((.slice (some P) 60 M,bs.take 60) :: ls):=ZAZ S br (fun p N=>(C.2 p N).keep (O.tO ay));have a5:=YAs vc bt Z;have o:=ZW (List.flatMap (·.2) ((.slice (some P) 60 M,bs.take 60) :: ls));rw[ZA cb,ZA c7] at a5 o;obtain⟨L,az⟩:=ex (Vd a b d is (ls.map (·.2)));rw[<- az] at a5 o;have bu:=ZB az;clear az;go_wp2_with (refine a5.mono ?_;clear a5;rintro e cs ⟨rfl,rfl⟩);have b0:=ao.kO (j.tO y);have f:=JAJ (k:=4) b0 Z [L] (by simp;omega) sq (by simp;omega) #[ii L] rfl 1 rfl
 go_wp2_with (
  (refine f.mono ?_)
  clear f;rintro e bv ⟨rfl,ce,cf⟩)
 have b1:kz w3 bv:=ay.trans cf (fun x h=>.inr (b0.fresh x h));have U:=D.kO b1;clear b0 bt br S Q R a3 bq ay y E j;refine ZT (fun w'=>cl w' (aq w.heap.size 4) (.slice A m B)) 9 [[0,3,4,7],[1],[2],[5],[6,8]] (VD U.drew).2.2.2.2 ?_;simp only[PI];iterate 4 refine wG ?_
 refine JB rq fun K l=>?_
 go_wp2_with (
  (refine(ZAD (ce.kO kq.drew)).mono ?_)
  rintro e z ⟨ct,rfl,a6,cg⟩)
 rw[ZA c8 _ (ZA bu)] at a6;obtain⟨b2,b3⟩:=ex (YAn a b d is (ls.map (·.2)));rw[<- b3] at a6 bp;have ch:=ZB b3;clear b3;have cu:b2.length=64:=bp;have j:kz bv z:=kq.drew.tO cg;obtain⟨V,X,rfl,cv⟩:=JI a6 Z;refine l _ _ ((VD (U.kO j)).2.2.2.2) ?_
 try simp only[Act.put,PU]
 refine JB rq fun K l=>?_;go_wp2_with fail;refine l _ _ ((VD ((U.kO j).kO (kq.alloc _))).2.2.2.2) ?_
 try simp only[Act.put,PU]
 obtain⟨b4,t⟩:=ex (z.alloc (.cells #[.slice (some V) 64 X] 66));have E:kz z b4:=by rw[t];exact kq.alloc _
 have Q:b4.ownsRow z.heap.size 66 1 (.slice (some z.heap.size) 1 1) 1 [.slice (some V) 64 X]:=by
  rw[t];exact QR (Blk.new z 66 #[.slice (some V) 64 X]) (AG _) Z sq sq
 have ax:z.heap.size<=b4.heap.size:=E.size;rw[<- t];clear t;have R:=C.keep (((O.tO b1).tO j).tO E);refine JB rq fun K l=>?_;refine elemRows.wp1_app (.tmp 62) (.tmp 64) rq z.heap.size _ 1 _ rq Q A m B (ls.map (·.1)) rq R.1 (fun u T=>by obtain⟨p,N,rfl⟩:=C8.1 T;obtain⟨_,_,_,e,_⟩:=R.2 p N;rw[e];rfl) Z Z ax ?_;intro cc a7 S ci _ _;obtain⟨cj,ck,rfl,_⟩:=XB S;have y:kz z a7:=E.trans ci (fun x h=>.inr (own_mem Q h).1);refine l _ _ ((VD ((U.kO j).kO y)).2.2.2.2) ?_
 try simp only[Act.put,PU]
 have cm:Bts a7 (.slice (some V) 64 X) b2:=⟨_,_,_,rfl,Z,Z,Rd.of_own (QB a6 y)⟩;have b5:kz w3 a7:=(b1.tO j).tO y;have cn:Rws a7 cj (1+m) ((.slice (some V) 64 X,b2) :: ls):=ZAZ S cm (fun p N=>(C.2 p N).keep (O.tO b5));have bw:=XAu ck cn (by rw[BE,AE];simp only;omega) (by rw[BE,AE,ZA bz];simp only;omega) Z;refine JB rq fun K l=>?_;go_wp2_with (refine bw.mono ?_;clear bw;rintro e cw ⟨u,rfl,T,bx⟩);refine l _ _ ((VD (((U.kO j).kO y).kO bx)).2.2.2.2) ?_
 iterate 1 refine wG ?_
 refine VB ?_;go_wp2_with fail;refine Ac (v:=.tuple #[u,(L:Nat),zz]) (by simp[results,results330,go_sem]) rfl ?_;rw[<- ZA ch,<- ZA bu];exact⟨u,rfl,VC T (O.tO b5).size,(O.tO b5).tO bx⟩
theorem JAp (b c d:Nat) (is:List PItem) (a:List (List UInt8)):Vd b c d is a<=4294967295:=by
 unfold Vd;have:=ZW (QY 60 (VAn b c d is a.length)++a.flatten);omega
structure RecAs (mount lsn prev:Nat) (is:List PItem) (bls:List (List UInt8)) (rs:List UInt8) (sum:Nat):Prop where
 len:rs.length=64
 eq:rs=YAn mount lsn prev is bls
 sm:sum=Vd mount lsn prev is bls
theorem XAd (a b d:Nat) (k:1<=a/\a<=2147483647) (l:1<=b/\b<=2147483647) (o:d<=4294967295) (g n c:Nat) (is:List PItem) (j:Nat)
 (q:Rd w (some g) (n*4) (is.flatMap itc)) (r:is.length=n) (s:∀ i∈is,i.May) (t:1<=n) (v:n<=6) (y:Rws w A m ls) (z:∀ p∈ls,p.2.length=64) (B:m=ZG is) :
 Calls prog 330 #[.agg #[ii a,ii b,ii d,.slice (some g) n c,.slice A m j]] w fun e w'=>∃ u f h,e=.returned (.tuple #[u,(h:Nat),zz])/\RecAs a b d is (ls.map (·.2)) f h/\h<=4294967295 /\
  w'.ownsRow w.heap.size 5 1 u (f++ls.flatMap (·.2)).length (bys (f++ls.flatMap (·.2)))/\kz w w':=
 (KAw a b d k l o g n c is j q r s t v y z B).mono fun e w' ⟨u,C,D,E⟩=>⟨u,_,_,C,⟨QV _ _ _ _ _ Z,rfl,rfl⟩,JAp _ _ _ _ _,D,E⟩
def VBC (mount lsn prev n m:Nat):List (Nat×Nat):=[(1,75),(1,82),(4,mount),(4,lsn),(4,prev),(1,n),(1,m)]
theorem XAc (t:List UInt8) (d f i n m:Nat) (E:RowAt w base r v bs 0) (b:bs=fields (VBC d f i n m)++t) (P:1<=n) (Q:n<=6) (p:m<=n) :
 Calls prog 449 #[pq r] w fun e w'=>e=.returned (.tuple #[n,m,.bool true])/\RowAt w' base r v bs 16/\Keep [r] w w':=by
 have F:16<=bs.length:=by rw[b];simp[VBC,widths]
 have j:=XR 2 E Z;have G:=fun W (h:RowAt W base r v bs (0+2))=>XR 12 h Z;have H:=fun W (h:RowAt W base r v bs (0+2+12))=>YAR (k:=1) (n:=n) (t:=t) [(1,75),(1,82),(4,d),(4,f),(4,i)] [(1,m)] h (by rw[b];rfl) (by simp[widths]) Z Z;have I:=fun W (h:RowAt W base r v bs (0+2+12+1))=>YAR (k:=1) (n:=m) (t:=t) [(1,75),(1,82),(4,d),(4,f),(4,i),(1,n)] [] h (by rw[b];rfl) (by simp[widths]) Z Z;have s:(bs.drop 0).take 2=[75,82]:=by rw[b];simp[VBC,fields,le]
 rw[s] at j;have y:=fun W=>Xa n 1 6 W ⟨Z,Z⟩;have R:((m:Nat):Int)<=(n:Nat):=Z
 clear s b F;go_enter func449,ntmps449;go_wp2_with (refine j.mono ?_;clear j;rintro e w1 ⟨u,rfl,l,z,J⟩);have a:=G _ z;go_wp2_with (refine a.mono ?_;clear a;rintro e S ⟨T,rfl,-,K,A⟩);have a:=H _ K;go_wp2_with (refine a.mono ?_;clear a;rintro e U ⟨rfl,L,B⟩);have a:=I _ L;obtain⟨g,C,rfl,_⟩:=JI l Z;have V:r≠g:=fun e=>own_blk_ne l z.blk (by decide) (by rw[e];rfl);have o:∀ q,(Value.slice (some g) 2 C).ownBlock=some q->q∉[r]:=fun q M p=>by simp[Value.ownBlock] at M p;omega
 go_wp2_with (first
  | (go_at_call 258
     refine a.mono ?_;clear a;rintro e X ⟨rfl,N,D⟩;have O:=KA (KA (KA l A o) B o) D o
     have Y:=Yh C [75,82] (Rd.of_own O))
  | (go_at_call 432;refine(y _).mono ?_;clear y;rintro e w' ⟨rfl,rfl⟩))
 go_ret3;exact⟨rfl,N,((J.trans A (fun x c=>.inl c)).trans B (fun x c=>.inl c)).trans D (fun x c=>.inl c)⟩
theorem VBQ (c:Nat) (bs t:List UInt8) (a b d n m:Nat) (f:Rd w A 64 (bys bs)) (g:bs=fields (VBC a b d n m)++t) (o:1<=n) (p:n<=6) (q:m<=n) :
 cr 427 #[.slice A 64 c] w (ii (1+(m:Nat))):=by
 have i:=QZ c bs f Z;have j:=fun W r v (h:RowAt W w.heap.size r v bs 0)=>XAc t a b d n m h g o p q;clear g f;go_enter func427,ntmps427
 go_wp2_with (first
  | (go_at_call 256;refine i.mono ?_;clear i;rintro e w1 ⟨r,v,rfl,k,s⟩;(have l:=j _ _ _ k);clear j)
  | (go_at_call 449;refine l.mono ?_;clear l;rintro e z ⟨rfl,B,u⟩))
 go_ret;exact⟨rfl,s.trans u (fun x y=>.inr (by simp at y;have:=k.base;omega))⟩
def KT (bs:List UInt8):Prop:=¬ (bs[0]? = some 75/\bs[1]? = some 82)
theorem VBE (K:RowAt w base r v bs 0) (o:bs.length=64) (s:KT bs) :
 Calls prog 449 #[pq r] w fun e w'=>∃ x y:Int,e=.returned (.tuple #[ii x,ii y,.bool false])/\Keep [r] w w':=by
 have j:=XR 2 K Z;have L:=fun W (h:RowAt W base r v bs (0+2))=>XR 12 h Z;have z:=fun W (h:RowAt W base r v bs (0+2+12))=>ZY 1 h Z Z;have A:=fun W (h:RowAt W base r v bs (0+2+12+1))=>ZY 1 h Z Z;obtain⟨p,i⟩:∃ p,bs[0]? = some p:=⟨bs[0],sq⟩;obtain⟨q,d⟩:∃ q,bs[1]? = some q:=⟨bs[1],sq⟩
 have B:(bs.drop 0).take 2=[p,q]:=by
  obtain⟨_,_,t,rfl⟩:∃ p q t,bs=p :: q :: t:=by
   match bs,o with
   | a :: b :: t,_=>exact⟨a,b,t,rfl⟩
  simp at i d;subst i d;rfl
 have C:¬ (p=75/\q=82):=fun⟨M,N⟩=>s ⟨by rw[i,M],by rw[d,N]⟩;rw[B] at j;obtain⟨V,D⟩:=ex (num ((bs.drop (0+2+12)).take 1));obtain⟨X,E⟩:=ex (num ((bs.drop (0+2+12+1)).take 1));rw[<- D] at z;rw[<- E] at A;obtain⟨k,l⟩:∃ k:ByteArray,k=⟨[p,q].toArray⟩:=⟨_,rfl⟩
 have Y:(k.toList == [75,82])=false:=by
  rw[l,ByteArray.toList_mk];simp only[Dd,ne_eq,List.cons.injEq,and_true];exact C
 have O:=ZB l;clear s o i d B D E C l;go_enter func449,ntmps449;go_wp2_with (refine j.mono ?_;clear j;rintro e w1 ⟨u,rfl,m,F,P⟩);have c:=L _ F;go_wp2_with (refine c.mono ?_;clear c;rintro e w2 ⟨u2,rfl,-,Q,G⟩);have c:=z _ Q;go_wp2_with (refine c.mono ?_;clear c;rintro e w3 ⟨rfl,R,H⟩);have c:=A _ R;obtain⟨g,I,rfl,_⟩:=JI m Z;have a0:r≠g:=fun e=>own_blk_ne m F.blk (by decide) (by rw[e];rfl);have n:∀ q,(Value.slice (some g) 2 I).ownBlock=some q->q∉[r]:=fun q d S=>by simp[Value.ownBlock] at d S;omega
 go_wp2_with (
  (go_at_call 258
   refine c.mono ?_;clear c;rintro e w4 ⟨rfl,a1,J⟩;have T:=KA (KA (KA m G n) H n) J n;have U:=Yh I [p,q] (Rd.of_own T);rw[<- ZA O] at U))
 all_goals
  go_ret3;exact⟨_,_,rfl,((P.trans G (fun x f=>.inl f)).trans H (fun x f=>.inl f)).trans J (fun x f=>.inl f)⟩
theorem KAx (c:Nat) (a:Rd w A 64 (bys bs)) (b:KT bs) :
 cr 427 #[.slice A 64 c] w zz:=by
 have d:bs.length=64:=by have:=a.1;simpa using this
 have f:=QZ c bs a Z;have g:=fun W r v (h:RowAt W w.heap.size r v bs 0)=>VBE h d b;clear a b d;go_enter func427,ntmps427
 go_wp2_with (first
  | (go_at_call 256;refine f.mono ?_;clear f;rintro e w1 ⟨r,v,rfl,i,k⟩;(have j:=g _ _ _ i);clear g)
  | (go_at_call 449;refine j.mono ?_;clear j;rintro e n ⟨x,y,rfl,l⟩))
 go_ret;exact⟨rfl,k.trans l (fun x m=>.inr (by simp at m;have:=i.base;omega))⟩
theorem VBN (x:Int):KT (XY x):=by
 rintro⟨a,b⟩;unfold XY Yb at a b;rw[Aa,List.getElem?_range Z] at a b;simp only[Az,Ab] at a b;have c:=congrArg UInt8.toNat a;have d:=congrArg UInt8.toNat b;rw[CL] at c d;simp at c d;omega