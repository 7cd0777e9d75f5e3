/- Lemmas of the proof, with their conditions. -/
import Derived.Test.YtfedaknhecbehaaGreatL34
namespace Go.Proofs.YtfedaknhecbehaaGreat
open Tryz Go.RowKit Go.Shelf
variable {i b c n L L':Nat} {I:PIdl} {t:TypeId} {x0 x1 x2 x3 x4 Bv:Value} {D D':PDisk}
set_option linter.all false
set_option maxHeartbeats 8000000
set_option maxRecDepth 100000
theorem elem8M:ElemN prog 66 5 (.int .u8 0) 1 1:=ElemN.of underlying66 (by kernel_rfl) rfl Z
def XBm (w:World) (base i:Nat) (F:List Nat) (I:PIdl) (e:Ending) (w':World):Prop:=e=.returned (.bool true)/\∃ F',KAy w' base i F' I/\Keep F w w'/\∀ x∈F',x∈F\/w.heap.size<=x
theorem JAm {w:World} {base:Nat} {F:List Nat} (h:KAy w base i F I) (bj:1<=I.base.length/\I.base.length<=64) (al:I.base.length=I.over.length) (bk:I.ep<=1000000) (cc:I.seq<=1000000) {k e:Nat} (m:Nat) {A:Option Addr} (xs:List UInt8) (ha:Rd w A n (bys xs)) (hm:n<=m) (hf:QAP I k b c e n) :
 Calls prog 47 #[pq i,.agg #[ii k,ii b,ii c,ii e,.slice A n m]] w (XBm w base i F (I.step ⟨k,b,c,e,xs⟩)):=by
 obtain⟨cd,ov,bs,os,h⟩:=h;have Y:=h.blen;have J:=h.olen;obtain⟨r,cb,rfl,_,_⟩:=JE h.brow Z;obtain⟨d,co,rfl,_,_⟩:=JE h.orow Z;have a0:kz w (w.alloc (.cells #[ii k,ii b,ii c,ii e,.slice A n m] 95)):=kq.alloc _;have ae:=Blk.new w 95 #[ii k,ii b,ii c,ii e,.slice A n m];have a1:=fun W (hk:kz w W)=>ZAR (h.kO hk) bj bk m A hf;have b3:xs.length=n:=uq ha.1;have bl:i≠r:=fun e=>h.iB (by simp[Value.ownBlock,e]);have am:i≠d:=fun e=>h.iO (by simp[Value.ownBlock,e]);have bm:r≠d:=fun e=>h.ne (by simp[Value.ownBlock,e]);have a2:=fun x a=>(h.lt x a);have b4:base<=w.heap.size:=by have:=h.base;have:=h.blk.lt;omega
 have a8:=h.inI;have b5:r∈F:=h.inB r (by simp[Value.ownBlock]);have a3:d∈F:=h.inO d (by simp[Value.ownBlock]);obtain⟨D,B,E,G,C⟩:=QI ae;have b6:=JB b3;have bn:=JB Y;have af:=JB J;clear b3 Y J;rcases hf with⟨rfl,h1,rfl,rfl,rfl⟩ | ⟨rfl,h1,h2,rfl,rfl⟩ | ⟨rfl,rfl,rfl,rfl,rfl⟩
 . go_enter func47,ntmps47
   go_wp2_with (
    (refine(a1 _ a0).mono ?_)
    clear a1 D B E G C;rintro e w1 ⟨rfl,M⟩;have H:=ae.kO M;have t:=a0.tO M;have bo:=h.kO t;obtain⟨an,a9,c2,b7,c4⟩:=bo.cells;obtain⟨D,B,E,G,C⟩:=QI H)
   have b8:=QAJ m xs 0 64 ((ha.keep t).drew) Z Z Z hm Z;refine ZT (fun w'=>cl w' (aq i 1) (.slice (some d) os.length co)/\cl w' (aq w.heap.size 1) (ii b)/\cl w' (aq w.heap.size 4) (.slice A 64 m)) 9 [[0,1,2,3,4,5,6,7],[8]] ⟨a9,B,C⟩ ?_;simp only[PI];iterate 8 refine wG ?_
   refine YB rq (fun K ao=>?_);go_wp2_with (refine b8.mono ?_;clear b8;rintro e N ⟨u,rfl,hu,ag⟩);have a4:=t.drew.tO ag;obtain⟨d1,d2,d3,d4,d5⟩:=(h.kO a4).cells;obtain⟨p0,p1,p2,p3,p4⟩:=QI (H.kO ((Keep.refl [] w1).drew.tO ag));have bp:b<os.length:=by rw[JA af];omega
   obtain⟨ap,uc,rfl,_⟩:=ZB hu;have bq:cl N (aq d b) (os[b]).1:=QJ (h.kO a4).orow (by rw[Aa,AC bp];rfl);refine ao _ _ (⟨d2,p1,p4⟩) ?_
   try simp only[Act.put,PU]
   have aa:d≠w.heap.size:=fun e=>by have:=a2 d a3;omega
   have ar:w.heap.size≠d:=fun e=>aa e.symm;have b9:d≠i:=fun e=>am e.symm;have br:=XI (h.kO a4).orow b;have ba:=(h.kO a4).blk.frozen 3;have bb:IntKind.i64.wrap (((I.seq:Nat):Int)+1)=((I.seq:Nat):Int)+1:=by rw[AK];omega
   refine KB ?_;go_wp2_with fail;go_ret
   have ab:ORow N base (.slice ap 64 uc) (some xs):=.inr ⟨xs,rfl,uq (JA b6),by
    have:=ZC hu (AA b4 (t.drew).size);simpa [AH (Ap (JA b6))] using this⟩
   obtain⟨ac,h2,ah,au⟩:=h.setO a4 (k:=b) ab;have ad:=h2.blk.set 3 (.int .i64 ((I.seq+1:Nat):Int));have O:Keep [i] (N.setCell (aq d b) (.slice ap 64 uc)) ((N.setCell (aq d b) (.slice ap 64 uc)).setCell (aq i 3) (.int .i64 ((I.seq+1:Nat):Int))):=(Keep.refl [i] _).sc i 3;have R:=h2.setN I.ep (I.seq+1) I.done (uq ad) O;refine⟨rfl,ac,⟨_,_,_,_,by simpa [PIdl.step] using R⟩,((((Keep.refl F w).tO a4).trans ah (fun y j=>.inl (by simp at j;subst j;exact a3))).trans O (fun y j=>.inl (by simp at j;subst j;exact a8))),fun x a=>?_⟩;rcases au x a with a | a
   . exact .inl a
   exact .inr (AA (t.drew).size (YAS hu x a))
 . have aa:d≠w.heap.size:=fun e=>by have:=a2 d a3;omega
   have ar:w.heap.size≠d:=fun e=>aa e.symm;have b9:d≠i:=fun e=>am e.symm;have av:i≠w.heap.size:=fun e=>by have:=a2 i a8;omega
   have bt:w.heap.size≠i:=fun e=>av e.symm;have ce:c<=64:=Z;have bb:IntKind.i64.wrap (((I.seq:Nat):Int)+1)=((I.seq:Nat):Int)+1:=by rw[AK];omega
   go_enter func47,ntmps47
   go_wp2_with (
    (refine(a1 _ a0).mono ?_)
    clear a1 D B E G C;rintro e w1 ⟨rfl,M⟩;have H:=ae.kO M;have t:=a0.tO M;obtain⟨D,B,E,G,C⟩:=QI H)
   go_loopw [5] (fun S wr=>∃ (q:Nat) (l:List (Value×Option (List UInt8))) (F':List Nat),q<=c/\S=.int .i64 (q:Nat)/\IdlIs wr base i (.slice (some r) bs.length cb) (.slice (some d) os.length co) bs l F' { I with over:=XP I.over b q (some zeros64) }/\Keep F w wr/\Blk wr w.heap.size 95 #[ii 2,ii b,ii c,zz,.slice A 0 m]/\(∀ x∈F',x∈F\/w.heap.size<=x)) (fun S _=>c-(intOf S).toNat)
   case atStart=>exact⟨0,os,F,AS _,rfl,by rw[XAg];exact h.kO t,(Keep.refl F w).tO t,H,fun x a=>.inl a⟩
   clear D B E G C H t;obtain⟨q,l,F',hq,rfl,f,P,T,U⟩:=hrel;obtain⟨an,a9,c2,b7,c4⟩:=f.cells;obtain⟨D,B,E,G,C⟩:=QI T;by_cases bu:q<c
   . have bv:b+q<l.length:=by
      have:=f.olen;simp only[ZW] at this;have:=JA af;omega
     go_wp2_with fail;refine ZT (fun w'=>cl w' (aq i 1) (.slice (some d) os.length co)/\cl w' (aq w.heap.size 1) (ii b)) 9 [[0,1,2,3,4,5,6,7],[8]] ⟨a9,B⟩ ?_;simp only[PI];iterate 8 refine wG ?_
     refine YB rq (fun K ao=>?_);refine elem8M.wp1_make _ _ rfl .i64 .i64 64 rfl rfl Z Z ?_;intro N g2 bc cf bw ag;have a5:kz wr N:=(Keep.refl [] wr).drew.tO ag;obtain⟨d1,d2,d3,d4,d5⟩:=(f.kO a5).cells;obtain⟨p0,p1,p2,p3,p4⟩:=QI (T.kO a5);have J:os.length=l.length:=by obtain⟨_,_,e,_⟩:=ZB f.orow;injection e
     have Q:=(f.kO a5).orow;rw[J] at Q;have bq:cl N (aq d (b+q)) (l[b+q]).1:=QJ Q (by rw[Aa,AC bv];rfl);have br:=XI Q (b+q);clear Q;have ch:b+q<os.length:=Z;have ci:IntKind.i64.wrap (((b:Nat):Int)+(q:Nat))=((b:Nat):Int)+(q:Nat):=by rw[AK];omega
     have cj:IntKind.i64.wrap (((q:Nat):Int)+1)=((q:Nat):Int)+1:=by rw[AK];omega
     have ck:(((b:Nat):Int)+(q:Nat)).toNat=b+q:=Z;have hz:=YP (e:=5) (s:=1) (z:=.int .u8 0) (n:=64) (m:=64) (xs:=bys zeros64) (base:=base) bw Z (by rw[bc];exact AA b4 (uq P.size)) Z (by simp[bys,by8,zeros64]) rfl;refine ao _ _ (⟨d2,p1⟩) ?_
     try simp only[Act.put,PU]
     refine KB ?_;go_wp2_with fail;go_roundw
     case rel=>
      have ab:ORow N base (.slice (some (aq wr.heap.size 0)) 64 64) (some zeros64):=.inr ⟨zeros64,rfl,by simp[zeros64],by simpa [bc] using hz⟩;obtain⟨ac,h2,ah,au⟩:=f.setO a5 (k:=b+q) ab;refine⟨q+1,l.set (b+q) (.slice (some (aq wr.heap.size 0)) 64 64,some zeros64),ac,Z,by go_num,?_,(P.tO a5).trans ah (fun y j=>.inl (by simp at j;subst j;exact a3)),(T.kO a5).keep ah (by simp;omega),fun x a=>?_⟩
      . rw[VAd _ _ _ _ (by have:=JA af;omega)]
        exact h2
      rcases au x a with a | a
      . exact U x a
      simp[Value.ownBlock] at a;subst a;exact .inr P.size
     case measure=>simp[intOf];omega
   obtain rfl:q=c:=Z;have ba:=f.blk.frozen 3;go_wp2_with fail;go_ret;have ad:=f.blk.set 3 (.int .i64 ((I.seq+1:Nat):Int));have O:Keep [i] wr (wr.setCell (aq i 3) (.int .i64 ((I.seq+1:Nat):Int))):=(Keep.refl [i] _).sc i 3;have R:=f.setN I.ep (I.seq+1) I.done (uq ad) O;exact⟨rfl,F',⟨_,_,_,_,by simpa [PIdl.step] using R⟩,P.trans O (fun y j=>.inl (by simp at j;subst j;exact a8)),U⟩
 have aa:d≠w.heap.size:=fun e=>by have:=a2 d a3;omega
 have ar:w.heap.size≠d:=fun e=>aa e.symm;have bx:r≠w.heap.size:=fun e=>by have:=a2 r b5;omega
 have bz:w.heap.size≠r:=fun e=>bx e.symm;have b9:d≠i:=fun e=>am e.symm;have cm:r≠i:=fun e=>bl e.symm;have cn:d≠r:=fun e=>bm e.symm;have av:i≠w.heap.size:=fun e=>by have:=a2 i a8;omega
 have bt:w.heap.size≠i:=fun e=>av e.symm;have bb:IntKind.i64.wrap (((I.seq:Nat):Int)+1)=((I.seq:Nat):Int)+1:=by rw[AK];omega
 obtain⟨L,ai⟩:=ex bs.length;have aw:L=I.base.length:=by rw[ai];exact JA bn
 have bd:os.length=L:=by rw[aw,al];exact JA af
 have cp:=JB ai;have ax:=JB aw;rw[bd,<- ai] at h;clear ai bd aw;have cq:L<=64:=by have:=JA ax;omega
 go_enter func47,ntmps47
 go_wp2_with (
  (refine(a1 _ a0).mono ?_)
  clear a1 D B E G C;rintro e w1 ⟨rfl,M⟩;have H:=ae.kO M;have t:=a0.tO M;obtain⟨D,B,E,G,C⟩:=QI H)
 go_loopw [6] (fun S wr=>∃ (q:Nat) (a6:List (Value×List UInt8)) (l:List (Value×Option (List UInt8))) (F':List Nat),q<=L/\S=.int .i64 (q:Nat)/\IdlIs wr base i (.slice (some r) L cb) (.slice (some d) L co) a6 l F' { I with base:=Jv I.base I.over q,over:=Qe I.over q }/\Keep F w wr/\Blk wr w.heap.size 95 #[ii 3,zz,zz,ii ((I.ep+1:Nat):Int),.slice A 0 m]/\(∀ x∈F',x∈F\/w.heap.size<=x)) (fun S _=>L-(intOf S).toNat)
 case atStart=>exact⟨0,bs,os,F,AS _,rfl,by simpa [Jv,Qe] using h.kO t,(Keep.refl F w).tO t,H,fun x a=>.inl a⟩
 clear D B E G C H t;obtain⟨q,a6,l,F',hq,rfl,f,P,T,U⟩:=hrel;obtain⟨an,a9,c2,b7,c4⟩:=f.cells;obtain⟨D,B,E,G,C⟩:=QI T;by_cases bu:q<L
 . have J:L=l.length:=by obtain⟨_,_,e,_⟩:=ZB f.orow;injection e
   have Y:L=a6.length:=by obtain⟨_,_,e,_⟩:=ZB f.brow;injection e
   have aj:q<l.length:=Z;have bf:I.base.length=I.over.length:=al;have bg:q<I.over.length:=by have:=JA ax;omega
   have ay:(Qe I.over q)[q]? = some l[q].2:=f.oget aj;have ab:=f.odat _ (AQ aj);have a7:I.over[q]? = some l[q].2:=by rw[<- ay,Jc];simp
   have Q:=f.orow;rw[J] at Q;have az:wr.cell? (aq d q)=some l[q].1:=QJ Q (by rw[Aa,AC aj];rfl);clear Q;rcases ab with⟨hn,hv⟩ | ⟨ys,hs,hl,b0⟩
   . rw[hv] at az
     rw[hn] at a7;obtain⟨V,X⟩:=VBO bf bg a7;have b1:=JB V;have b2:=JB X;clear V X ay hn hv a7 J Y;go_wp2_with fail;go_roundw;case rel=>exact⟨q+1,a6,l,F',Z,by go_num,by rw[JA b1,JA b2];exact f,P,T,U⟩
     case measure=>simp[intOf];omega
   obtain⟨g,cg,hv,_,_⟩:=JE b0 Z;have c5:g∈F':=f.inOs (AQ aj) g (by rw[hv];simp[Value.ownBlock]);rw[hv] at az b0;rw[hs] at a7;obtain⟨V,X⟩:=ZBU bf bg a7;have ak:=f.brow;rw[Y] at ak;have c6:q<a6.length:=Z;obtain⟨cr,cs⟩:∃ u,cl wr (aq r q) u:=⟨_,QJ ak (by rw[Aa,AC c6];rfl)⟩;have ct:=XI ak q;have cu:=XI (by have:=f.orow;rwa [J] at this) q;have b1:=JB V;have b2:=JB X;clear V X ay hs hv a7 J Y ak;go_wp2_with fail;refine ZT (fun w'=>cl w' i (.slice (some r) L cb)/\cl w' (aq i 1) (.slice (some d) L co)/\cl w' (aq d q) (.slice (some g) 64 cg)) 12 [[0,1,2,3,4,5,6,7,8,9,10,11]] ⟨an,a9,az⟩ ?_;simp only[PI];iterate 12 refine wG ?_
   refine KB ?_;go_wp2_with fail;go_roundw
   case rel=>
    obtain⟨cv,c7,bh,c8⟩:=f.setB (Keep.refl [] wr) (k:=q) (.inr ⟨ys,rfl,hl,b0⟩);obtain⟨ac,c9,bi,ca⟩:=c7.setO (Keep.refl [] _) (k:=q) (v:=.slice none 0 0) (o:=none) (.inl ⟨rfl,rfl⟩);refine⟨q+1,a6.set q (.slice (some g) 64 cg,ys),l.set q (.slice none 0 0,none),ac,Z,by go_num,?_,?_,?_,fun x a=>?_⟩
    . rw[JA b1,JA b2]
      exact c9.kO (Keep.refl [] _).drew
    . exact((P.trans bh (fun y j=>.inl (by simp at j;subst j;exact b5))).trans bi (fun y j=>.inl (by simp at j;subst j;exact a3))).drew
    . exact((T.keep bh (by simp[bz])).keep bi (by simp[ar])).kO (Keep.refl [] _).drew
    rcases ca x a with a | a
    . rcases c8 x a with a | a
      . exact U x a
      simp[Value.ownBlock] at a;subst a;exact U _ c5
    simp[Value.ownBlock] at a
   case measure=>simp[intOf];omega
 obtain rfl:q=L:=Z;have ba:=f.blk.frozen 2;have cw:=f.blk.frozen 3;have cx:=f.blk.frozen 4;go_wp2_with fail;go_ret;have ad:=((f.blk.set 2 (.int .i64 ((I.ep+1:Nat):Int))).set 3 (.int .i64 ((I.seq+1:Nat):Int))).set 4 (.int .i64 ((I.seq+1:Nat):Int));have O:=(((Keep.refl [i] wr).setCell (p:=⟨i,2,none⟩) (.inl sq) (.int .i64 ((I.ep+1:Nat):Int))).setCell (p:=⟨i,3,none⟩) (.inl sq) (.int .i64 ((I.seq+1:Nat):Int))).setCell (p:=⟨i,4,none⟩) (.inl sq) (.int .i64 ((I.seq+1:Nat):Int));obtain⟨V,X⟩:=KBh al;have R:=f.setN (I.ep+1) (I.seq+1) (I.seq+1) (uq ad) O;have eq:q=I.over.length:=by have:=JA ax;omega
 rw[eq] at R;simp only[V,X] at R;exact⟨rfl,F',⟨_,_,_,_,by simpa [PIdl.step] using R⟩,P.trans O (fun y j=>.inl (by simp at j;subst j;exact a8)),U⟩
theorem elemRowsM:ElemN prog 69 66 (.slice none 0 0) 1 24:=ElemN.of underlying69 (by kernel_rfl) rfl Z
theorem Zh {w:World} {g:Nat} (h:Blk w g t #[x0,x1,x2,x3,x4]):cl w g x0/\cl w (aq g 1) x1/\cl w (aq g 2) x2/\cl w (aq g 3) x3/\cl w (aq g 4) x4:=
 ⟨uq (h.cell 0),uq (h.cell 1),uq (h.cell 2),uq (h.cell 3),uq (h.cell 4)⟩
theorem VAY (n:Nat) (h0:1<=n) (hn:n<=64) (w:World) :
 Calls prog 44 #[n] w fun e w'=>∃ i F,e=.returned (pq i)/\KAy w' w.heap.size i F (PIdl.new n)/\kz w w':=by
 have E:=fun W=>QG (n:Nat) 1 64 true (by simp;omega) W;go_enter func44,ntmps44
 go_wp2_with (first
  | (go_at_call 147;refine(E _).mono ?_;clear E;rintro e w' ⟨rfl,rfl⟩)
  | (at_make;refine elemRowsM.wp_make rfl _ _ rfl .i64 .i64 n rfl rfl Z Z ?_;intro w1 g1 Y G H I;subst Y))
 have J:w1.ownsRow w.heap.size 66 1 (.slice (some w.heap.size) n n) n (List.replicate n (.slice none 0 0)):=YP (e:=66) (s:=1) (z:=.slice none 0 0) H Z Z Z sq rfl;have p:=Blk.new w1 97 #[zn,.slice (some w.heap.size) n n,zz,zz,zz];have L:kz w (w1.alloc (.cells #[zn,.slice (some w.heap.size) n n,zz,zz,zz] 97)):=I.alloc _;have M:=KD J (.cells #[zn,.slice (some w.heap.size) n n,zz,zz,zz] 97);generalize N:w1.alloc (.cells #[zn,.slice (some w.heap.size) n n,zz,zz,zz] 97)=wA at *;rw[G] at p;clear J I G H;obtain⟨d,r⟩:=ex (w.heap.size+1);rw[<- r] at p;go_wp2_with fail
 try rw[N]
 try rw[<- r]
 clear N;have O:=JB r;clear r
 go_loopw [4] (fun i wr=>∃ (k:Nat) (S:Value) (h:List Value),k<=n/\i=.int .i64 (k:Nat)/\Blk wr d 97 #[S,.slice (some w.heap.size) n n,zz,zz,zz] /\
  wr.ownsRow w.heap.size 66 1 S k h/\wr.ownsRow w.heap.size 66 1 (.slice (some w.heap.size) n n) n (List.replicate n (.slice none 0 0))/\w.heap.size∉S.ownBlock.toList/\Hid (∀ v∈h,wr.ownsRow w.heap.size 5 1 v 64 (bys zeros64))/\kz w wr) (fun i _=>n-(intOf i).toNat)
 case atStart=>exact⟨0,.slice none 0 0,[],AS _,rfl,p,Ab _ _ _ _,M,by simp[Value.ownBlock],(by show ∀ v∈([]:List Value),_;intro v hv;cases hv),L⟩
 clear p M L;obtain⟨k,S,h,hk,rfl,f,j,t,u,P,y⟩:=hrel;obtain⟨a0,ah,c2,ai,c4⟩:=Zh f;by_cases aj:k<n
 . have ak:((k:Nat):Int)<(n:Nat):=Z
   go_wp2_with fail;refine ZT (fun w'=>cl w' (aq d 0) S) 8 [[0,1,2,3,4],[5],[6],[7]] a0 ?_;simp only[PI];iterate 5 refine wG ?_
   refine YB rq (fun K o=>?_);refine elem8M.wp1_make _ _ rfl .i64 .i64 64 rfl rfl Z Z ?_;intro l g2 a1 a2 a3 a4;obtain rfl:g2=wr.heap.size:=a1;clear a2;have Q:kz wr l:=kq.drew.tO a4;have a5:l.ownsRow w.heap.size 5 1 (.slice (some (aq wr.heap.size 0)) 64 64) 64 (bys zeros64):=YP (e:=5) (s:=1) (z:=.int .u8 0) a3 Z y.size Z (by simp[bys,by8,zeros64]) rfl;refine o _ _ ((Zh (f.kO Q)).1) ?_
   try simp only[Act.put,PU]
   refine YB rq (fun K o=>?_);go_wp2_with fail;have a6:=JT l (Value.slice (some (aq wr.heap.size 0)) 64 64) 66;have c:kz wr (l.alloc (.cells #[Value.slice (some (aq wr.heap.size 0)) 64 64] 66)):=Q.alloc _;have a7:=KD a5 (.cells #[Value.slice (some (aq wr.heap.size 0)) 64 64] 66);generalize l.alloc (.cells #[Value.slice (some (aq wr.heap.size 0)) 64 64] 66)=w3 at *;generalize l.heap.size=n4 at *;refine o _ _ ((Zh (f.kO c)).1) ?_
   try simp only[Act.put,PU]
   refine YB rq (fun K o=>?_);refine elemRows.wp1_app (.tmp 21) (.tmp 23) rq w.heap.size S k h rq (QB j c) (some n4) 1 1 [Value.slice (some (aq wr.heap.size 0)) 64 64] rq a6 (by simp[Value.oneCell']) Z Z (AA y.size c.size) ?_;intro S' m R A T _;have U:d∉S.ownBlock.toList:=fun a=>own_blk_ne j f (by decide) (uq a);have B:=(f.kO c).keep A U;refine o _ _ ((Zh B).1) ?_
   try simp only[Act.put,PU]
   refine KB ?_;have f0:=B.frozen 0;have j0:=(Zh B).1;have a8:=B.set 0 S';have C:Keep [d] m (m.setCell (aq d 0) S'):=kq.sc d 0;have al:w.heap.size<wr.heap.size:=(own_mem t (g:=w.heap.size) (by simp[Value.ownBlock])).2
   have a9:d∉S'.ownBlock.toList:=fun a=>by
    rcases T with e | e
    . rw[e] at a;exact U a
    rw[e] at a;simp at a;have:=f.lt;have:=c.size;omega
   have aa:w.heap.size∉S'.ownBlock.toList:=fun a=>by
    rcases T with e | e
    . rw[e] at a;exact u a
    rw[e] at a;simp at a;have:=c.size;omega
   have V:∀ {e:TypeId} {s n:Nat} {v:Value} {xs:List Value},w3.ownsRow w.heap.size e s v n xs->e≠66->e≠97->(m.setCell (aq d 0) S').ownsRow w.heap.size e s v n xs:=fun hv he ab=>
    XB (XB hv A (fun x b a=>own_ne hv (QB j c) he b (uq a))) C (fun x b a=>by simp at a;subst a;exact own_blk_ne hv (f.kO c) ab b)
   have ac:(m.setCell (aq d 0) S').ownsRow w.heap.size 66 1 (.slice (some w.heap.size) n n) n (List.replicate n (.slice none 0 0)):=
    XB (XB (QB t c) A (fun x b a=>by simp[Value.ownBlock] at b;subst b;exact u a)) C (fun x b a=>by simp at a;subst a;exact own_blk_ne (QB t c) (f.kO c) (by decide) b)
   have ad:=V a7 (by decide) (by decide);have ae:Hid (∀ v∈h,(m.setCell (aq d 0) S').ownsRow w.heap.size 5 1 v 64 (bys zeros64)):=fun v hv=>V (QB (JA P v hv) c) (by decide) (by decide);have af:=XB R C (fun x b a=>by simp at a;subst a;exact a9 (uq b));have ag:kz w (m.setCell (aq d 0) S'):=((y.tO c).trans A (fun x b=>.inr (own_mem j b).1)).trans C (fun x b=>.inr (by simp at b;have:=JA O;omega));obtain⟨am,sc,rfl,_⟩:=ZB R;go_wp2_with fail;go_roundw
   case rel=>exact⟨k+1,_,_,Z,by go_num,uq a8,af,ac,aa,fun v hv=>by
    simp only[AD,Ak] at hv;rcases hv with hv | rfl
    . exact JA ae v hv
    exact ad,ag⟩
   case measure=>simp[intOf];omega
 obtain rfl:n=k:=Z;go_wp2_with fail;go_ret;have X:h.length=n:=uq j.1;refine⟨d,_,rfl,⟨S,_,h.map (fun v=>(v,zeros64)),List.replicate n (.slice none 0 0,none),f,?_,?_,?_,?_,?_,?_,?_,rfl,?_⟩,y⟩
 . simpa [X,Function.comp_def] using j
 . simpa using t
 . intro q D
   obtain⟨v,hv,rfl⟩:=Cv.1 D;exact .inr ⟨zeros64,rfl,by simp[zeros64],JA P v hv⟩
 . intro q D
   obtain rfl:=AV D;exact .inl ⟨rfl,rfl⟩
 . simp[PIdl.new,Function.comp_def,X,List.map_const']
 . simp[PIdl.new]
 . intro e
   rw[e] at u;exact u (by simp[Value.ownBlock])
 have:=JA O;omega
structure RHold (w:World) (N:Nat) (F:List Nat) (v:Value) (ls:List (Value×List UInt8)):Prop where
 row:w.ownsRow N 66 1 v ls.length (ls.map (·.1))
 dat:∀ q∈ls,q.2.length=64/\w.ownsRow N 5 1 q.1 64 (bys q.2)
 off:∀ g∈v.ownBlock.toList,g∉F
 offs:∀ q∈ls,∀ g∈q.1.ownBlock.toList,g∉F
namespace RHold
variable {w w':World} {N:Nat} {F F':List Nat} {v:Value} {ls:List (Value×List UInt8)}
theorem kO (h:RHold w N F v ls) (a:kz w w'):RHold w' N F v ls:=⟨QB h.row a,fun q b=>⟨(h.dat q b).1,QB (h.dat q b).2 a⟩,h.off,h.offs⟩
theorem turn (h:RHold w N F v ls) (c:Keep F w w') (i:Grow w F F'):RHold w' N F' v ls:=by
 have d:∀ {e:TypeId} {u:Value} {n q:Nat} {xs:List Value},w.ownsRow N e q u n xs->(∀ g∈u.ownBlock.toList,g∉F)->∀ g∈u.ownBlock.toList,g∉F':=by
  intro e u n q xs j k g a l;rcases i g l with f | f
  . exact k g a f
  have:=(own_mem j a).2;omega
 exact⟨XB h.row c (fun g a=>h.off g (uq a)),fun q b=>⟨(h.dat q b).1,XB (h.dat q b).2 c (fun g a=>h.offs q b g (uq a))⟩,d h.row h.off,fun q b=>d (h.dat q b).2 (h.offs q b)⟩
theorem rws (h:RHold w N F v ls) {A:Option Addr} (hv:v=.slice A n c):Rws w A n ls:=by
 have a:=h.row;rw[hv] at a
 have b:n=ls.length:=by
  obtain⟨A',g,d,_⟩:=ZB a;cases d;rfl
 subst b;refine⟨uq (Rd.of_ownN a),fun p e=>?_⟩;obtain⟨i,f⟩:=h.dat p e;have:=Bts.of_own f Z;exact this
theorem keepO (h:RHold w N F v ls) {g:Nat} (d:Keep [g] w w') (e:∀ y∈v.ownBlock.toList,y≠g) (f:∀ q∈ls,∀ y∈q.1.ownBlock.toList,y≠g):RHold w' N F v ls:=
 ⟨XB h.row d (fun y a b=>e y (by simp[a]) (uq b)),fun q c=>⟨(h.dat q c).1,XB (h.dat q c).2 d (fun y a b=>f q c y (by simp[a]) (uq b))⟩,h.off,h.offs⟩
theorem set (h:RHold w N F v ls) {g:Nat} (hv:v=.slice (some g) ls.length c) (n:b<ls.length) (u:Value) (bs:List UInt8) (k:bs.length=64) (e:w.ownsRow N 5 1 u 64 (bys bs)) (l:∀ x∈u.ownBlock.toList,x∉F) :
 RHold (w.setCell (aq g b) u) N F v (ls.set b (u,bs))/\Keep [g] w (w.setCell (aq g b) u):=by
 subst hv;have f:=h.row;have i:∀ {q:Value} {xs:List Value},w.ownsRow N 5 1 q 64 xs->∀ x,q.ownBlock=some x->x∉[g]:=fun a x m j=>by simp at j;subst j;exact own_ne a f (by decide) (b:=x) (by simp[m]) (by simp[Value.ownBlock])
 have d:Keep [g] w (w.setCell (aq g b) u):=kq.sc g b;refine⟨⟨?_,fun q a=>?_,h.off,fun q a=>?_⟩,d⟩
 . rw[Bj,CV]
   exact XX f b u
 . rcases AW a with a | rfl
   . exact⟨(h.dat q a).1,XB (h.dat q a).2 d (i (h.dat q a).2)⟩
   exact⟨k,XB e d (i e)⟩
 rcases AW a with a | rfl
 . exact h.offs q a
 exact l
end RHold
def JBf (w w':World) (B len marks:Nat) (ops:Nat->POp) (V:Value):Prop:=∃ (ls:List (Value×List UInt8)) (j:Nat),RHold w' w.heap.size [] V ls/\ls.map (·.2)=(idl B ops j).base/\ls.length<=64/\j<=len/\(j=len\/marks<=(idl B ops j).ep)/\kz w w'
theorem IdlIs.rhold {w:World} {base:Nat} {b c:Value} {bs:List (Value×List UInt8)} {os:List (Value×Option (List UInt8))} {F:List Nat} (h:IdlIs w base i b c bs os F I):RHold w base [] b bs:=by
 refine⟨h.brow,fun p d=>?_,fun _ _ a=>(nomatch a),fun _ _ _ _ a=>(nomatch a)⟩;rcases h.bdat p d with⟨h,_⟩ | ⟨ys,e,f,g⟩
 . cases h
 cases e;exact⟨f,g⟩
theorem KBW {w:World} {B len:Nat} (h:Nat) (I:1<=B/\B<=64) (af:len<=60) (hm:h<=1000000) {a:Nat->POp} (a0:XBd B a len) (a1:∀ j<len,∃ k b c e xs,OpIs B a j k b c e xs) (A:Option Addr) {a2:Nat} (cap:Nat) {F:List Nat} {f:List (Value×POp)} (a3:OHold w a2 F (.slice A len cap) f) (r:f.map (·.2)=(List.range len).map a) :
 Calls prog 60 #[B,h,.slice A len cap] w fun e w'=>∃ V,e=.returned V/\JBf w w' B len h a V:=by
 have J:=VAY B I.1 I.2 w;have K:f.length=len:=by have:=congrArg List.length r;simpa using this
 have s:=JB K;have a4:=JB r;clear K r;go_enter func60,ntmps60
 go_wp2_with (
  (refine J.mono ?_)
  clear J;rintro e w1 ⟨i,L,rfl,g,M⟩)
 have N:KAy w1 w.heap.size i L (idl B a 0):=g;clear g;go_loopw [8] (fun t wr=>∃ (q:Nat) (O:List Nat),q<=len/\t=.int .i64 (q:Nat)/\KAy wr w.heap.size i O (idl B a q)/\kz w wr) (fun t _=>len-(intOf t).toNat)
 case atStart=>exact⟨0,L,AS _,rfl,N,M⟩
 clear N M;obtain⟨q,O,u,rfl,g,l⟩:=hrel;obtain⟨bv,ov,bs,os,d⟩:=id g;obtain⟨a5,a6,c2,a7,c4⟩:=d.cells;obtain⟨P,Q⟩:=ZAZ B a q;have R:=JBj B a q
 have a8:(idl B a q).ep<=q:=by
  clear g d a5 a6 c2 a7 c4 P Q R l u
  induction q with
  | zero=>simp[idl,PIdl.new]
  | succ q ih=>
    simp only[idl,PIdl.step]
    split
    . simp only;omega
    split
    . simp only;omega
    simp only;omega
 by_cases m:q<len
 . by_cases ag:(idl B a q).ep<h
   . have a9:(((idl B a q).ep:Nat):Int)<(h:Nat):=Z
     have v:q<f.length:=by rw[JA s];exact m
     obtain⟨k,b,c,e,xs,z⟩:=a1 q m
     have S:f[q].2=⟨k,b,c,e,xs⟩:=by
      have T:(f.map (·.2))[q]? = some f[q].2:=by rw[Aa,AC v];rfl
      rw[JA a4,Aa,DF m] at T;rw[<- z.op];exact(CD T).symm
     have C:=a3.kO l;have o:=C.data f[q] (AQ v);have D:=C.rd (A:=A) (c:=cap) (by rw[JA s]);rw[JA s] at D;obtain⟨ob,oo,rfl,ah,o0,o1,o2,o3,E⟩:=D.at_ m v;rw[S] at o o0 o1 o2 o3;obtain⟨aa,dc,hv,U,_⟩:=ZB o;rw[hv] at E o;have W:=z.dev a0 m;have X:=fun n (G:n=xs.length)=>JAm g Z Z Z Z (k:=k) (b:=b) (c:=c) (e:=e) (n:=n) dc (A:=aa) xs (by rw[G];exact Rd.of_own o) (by rw[G];exact U) (by rw[G];exact W);simp only at E;obtain⟨n1,H⟩:=ex xs.length;have p:=X n1 H;rw[<- H] at E;rw[<- z.op] at p;have Y:(idl B a q).step (a q)=idl B a (q+1):=rfl;rw[Y] at p;have ab:=g;clear X H S o D C hv W Y P Q R a8 U
     go_wp2_with (
      (refine p.mono ?_)
      clear p;rintro e w2 ⟨rfl,ac,ad,ae,ai⟩)
     go_roundw;case rel=>exact⟨q+1,ac,Z,by go_num,ad,l.trans ae (fun y hy=>.inr (by obtain⟨_,_,_,_,hd⟩:=ab;exact(hd.lt y hy).1))⟩
     case measure=>simp[intOf];omega
   have a9:¬ (((idl B a q).ep:Nat):Int)<(h:Nat):=Z;obtain⟨gb,cb,rfl,_,_⟩:=JE d.brow (by rw[d.blen];omega);go_wp2_with fail;go_ret;exact⟨_,rfl,bs,q,d.rhold,d.bsnd,by rw[d.blen];omega,u,.inr Z,l⟩
 obtain rfl:q=len:=Z;obtain⟨gb,cb,rfl,_,_⟩:=JE d.brow (by rw[d.blen];omega);go_wp2_with fail;go_ret;exact⟨_,rfl,bs,q,d.rhold,d.bsnd,by rw[d.blen];omega,u,.inl rfl,l⟩
section
variable (w:World) (base r s d x:Nat) (Fs Fx:List Nat) (B:Nat) (R:RS) (h:ReplicaIs w base r s d x Fs Fx B R)
include h
end
section
variable (w:World) (base r s d x:Nat) (Fs Fx:List Nat) (B:Nat) (R:RS) (h:ReplicaIs w base r s d x Fs Fx B R)
include h
end
section
variable (w:World) (base r s d x:Nat) (Fs Fx:List Nat) (B:Nat) (R:RS) (h:ReplicaIs w base r s d x Fs Fx B R) (v:Nat) (hv:1<=v/\v<=2147483647) (A:Option Addr) (cp:Nat) (ha:Rd w A 25 (bys (QK 9 v 0 0 0 0 0 [])))
include h hv ha
end
section
open Go.RowKit Go.Shelf
attribute [local go_sem] AZ
theorem JAp {W:World} (h:Blk W b t #[x0,x1,x2,x3,x4]) (a c d e f:Value) :
 Blk (((((W.setCell b a).setCell (aq b 1) c).setCell (aq b 2) d).setCell (aq b 3) e).setCell (aq b 4) f) b t #[a,c,d,e,f] /\
 Keep [b] W (((((W.setCell b a).setCell (aq b 1) c).setCell (aq b 2) d).setCell (aq b 3) e).setCell (aq b 4) f):=by
 have g:=((((h.set 0 a).set 1 c).set 2 d).set 3 e).set 4 f;simp only[PU] at g;exact⟨g,(((((Keep.refl [b] W).sc b 0).sc b 1).sc b 2).sc b 3).sc b 4⟩
def YM (W:World) (s d g sg:Nat) (q:PPos):Prop:=Blk W s 375 #[pq d,pq g,sg,zz,zz,zz,zz,.bool true,q.seg,q.off,q.lsn,q.prev,q.mount,zz]
theorem QAi {w:World} {g B:Nat} (d sg:Nat) (j:GeomAt w g B) (k:sg<=7) :
 Calls prog 210 #[pq d,pq g,sg] w fun e w'=>∃ s,e=.returned (pq s)/\YM w' s d g sg ⟨sg,0,0,0,0⟩/\w.heap.size<=s/\kz w w':=by
 have f:Calls prog 324 #[pq d,pq g,.agg #[sg,zz,zz,zz,zz]] w fun e w'=>∃ s,e=.returned (pq s)/\Blk w' s 375 #[pq d,pq g,sg,zz,zz,zz,zz,.bool false,sg,zz,zz,zz,zz,zz]/\w.heap.size<=s/\kz w w':=by
  go_enter func324,ntmps324
  go_wp2
  go_ret;exact⟨_,rfl,Blk.new1 _ _ _ _,sq,(kq.alloc _).alloc _⟩
 have b:=fun W (a:kz w W)=>Js (j.kO a) (sg:Nat);rw[AJ Z] at b;go_enter func210,ntmps210
 go_wp2_with (first
  | (refine f.mono ?_
     clear f;rintro e w1 ⟨s,rfl,c,h,a⟩;have l:=(cells14 c).2.2.2.2.2.2.2.1
     have m:=c.frozen 7)
  | (refine(b _ a).mono ?_;clear b;rintro e n ⟨rfl,rfl⟩))
 have i:=c.set 7 (.bool true);simp only[PU] at i;go_ret;exact⟨s,rfl,i,h,a.setCell (p:=⟨s,7,none⟩) (.inr h) _⟩
theorem Zp {w:World} {s d g sg base:Nat} {q:PPos} {F:List Nat} (f:YM w s d g sg q) (h:DiskAt w base d F D) (L:D.off=false) (k:Nat) (M:k<D.n) (N:D.faults[k]? = some false) :
 Calls prog 424 #[pq s,k] w fun e w'=>∃ u,e=.returned (.tuple #[u,.bool true])/\w'.ownsRow w.heap.size 5 1 u 64 (bys (Go.Proofs.YtfedaknhecbehaaGreat.seg 64 D.now k))/\YM w' s d g sg q/\Keep [s] w w':=by
 have i:=Zf w base d F D h L k M N;unfold YM at *;obtain⟨j,l,m,n,o,p,r,t,v,y,z,A,B,C⟩:=cells14 f;go_enter func424,ntmps424
 go_wp2_with (
  refine i.mono ?_;clear i j l m n o p r t v y z A B C;rintro e E ⟨u,rfl,b,G⟩;obtain⟨P,Q,rfl,_⟩:=ZB b;have a:=f.kO G;obtain⟨j,l,m,n,o,p,r,t,v,y,z,A,B,C⟩:=cells14 a;have R:=a.frozen 13;have S:=a.lt)
 have H:=a.set 13 (.int .i64 0);have I:Keep [s] E (E.setCell (aq s 13) (.int .i64 0)):=kq.sc s 13;have O:=XB b I (fun x c J=>by simp at J;subst J;exact own_blk_ne b a (by decide) c);simp only[PU] at H;have K:=H.drew;have q:=(cells14 K).2.2.2.2.2.2.2.2.2.2.2.2.2;refine ZT (fun W=>cl W (aq s 13) zz) 7 [[0,1,2,3,4,5,6]] q ?_;simp only[PI];iterate 7 refine wG ?_
 refine KB ?_
 go_wp2
 go_ret2;exact⟨_,rfl,QB O kq.drew,K,(G.zero.trans I (fun x c=>.inl c)).drew⟩
theorem ZAk {w:World} {s d g B base sg:Nat} (a b f:Nat) {q:PPos} {F:List Nat} (l:YM w s d g sg q) (J:GeomAt w g B) (h:DiskAt w base d F D) (af:D.off=false) (hn:D.n=198+4*pgs B) (ag:sg<=7) (X:D.faults[VC B sg]? = some false)
 (h2:1<=a/\a<=2147483647) (h3:1<=b/\b<=2147483647) (h4:f<=4294967295) (Y:Go.Proofs.YtfedaknhecbehaaGreat.seg 64 D.now (VC B sg)=Zv sg a b f) (ah:s∉F) (L:s≠g) :
 Calls prog 382 #[pq s] w fun e w'=>e=.returned (.tuple #[.agg #[ii sg,ii 1,ii b,ii f,ii a],.bool true])/\YM w' s d g sg q/\Keep [s] w w':=by
 have a0:=fun W (m:Keep [s] w W)=>Js (J.keep m (by simpa using fun e=>L e.symm)) (sg:Nat);rw[AJ Z] at a0;have ai:=fun W (m:Keep [s] w W)=>ConfigG_is W g B (J.keep m (by simpa using fun e=>L e.symm));have a1:∀ W,Keep [s] w W->cr 34 #[pq g,ii sg] W (ii ((VC B sg:Nat))):=fun W m=>Yb W g B (J.keep m (by simpa using fun e=>L e.symm)) sg ag;have M:=fun W (m:Keep [s] w W) (a2:YM W s d g sg q)=>Zp a2 (h.keep m (fun x t hm=>by simp at hm;subst hm;exact ah t)) af (VC B sg) (by unfold VC;omega) X;rw[Y] at M;generalize VC B sg=K at *;have y:=fun W A c (ha:Rd W A 64 (bys (Zv sg a b f)))=>XBW sg a b f Z h2 h3 h4 c ha;generalize Zv sg a b f=hb at *;clear Y X hn;have a2:=l;have b5:=fun W=>QE (P:=prog) underlying28 2 rfl isAgg3 #[ii B,ii 8,ii 24] rfl W;unfold YM at l;obtain⟨aj,i,c2,ak,c4,c5,c6,c7,c8,c9,al,am,an,ao⟩:=cells14 l;have ap:=l.frozen 13;have ar:=l.lt;have N:=l.set 13 (.int .i64 0);have a3:Keep [s] w (w.setCell (aq s 13) (.int .i64 0)):=kq.sc s 13;have a4:s≠w.heap.size:=Z;simp only[PU] at N;go_enter func382,ntmps382;go_wp2_with fail;have O:=Blk.new (w.setCell (aq s 13) (.int .i64 0)) 49 #[ii sg,zz,zz,zz,zz];rw[Dj] at O;have a5:=a3.alloc (.cells #[ii sg,zz,zz,zz,zz] 49);have a6:=N.kO ((Keep.refl [] _).alloc (.cells #[ii sg,zz,zz,zz,zz] 49));clear N a3 ap ar aj i c2 ak c4 c5 c6 c7 c8 c9 al am an ao l;generalize ((w.setCell (aq s 13) (.int .i64 0)).alloc (.cells #[ii sg,zz,zz,zz,zz] 49))=w1 at *;have n:=O.drew;have o:=a6.drew;have j:=a5.drew;obtain⟨p0,r,z,C,E⟩:=JG n;have i:=(cells14 o).2.1;refine ZT (fun W=>cl W (aq s 1) (pq g)/\cl W w.heap.size (ii sg)/\cl W (aq w.heap.size 1) zz) 22 [[0,1,2,3,4,5],[6,7,8,9,10,11,12,13,14,15,16,17,18,19],[20,21]] ⟨i,p0,r⟩ ?_;simp only[PI];iterate 6 refine wG ?_
 refine YB rq (fun K p=>?_);go_wp2_with (refine(a0 _ j).mono ?_;rintro e w2 ⟨rfl,rfl⟩);refine p _ _ (⟨i,p0,r⟩) ?_;iterate 13 refine wG ?_
 refine YB rq (fun K p=>?_);go_wp2_with (refine(ai _ j).mono ?_;rintro e w2 ⟨rfl,G⟩);have H:=n.kO G;have Q:=o.kO G;have a7:=j.tO G;obtain⟨a8,a9,au,av,aw⟩:=JG H;have aa:=(cells14 Q).2.1;refine p _ _ (⟨aa,a8,a9⟩) ?_;iterate 1 refine wG ?_
 refine KB ?_;clear p0 r z C E i n o j O a5 a6;have ax:=H.lt;go_wp2_with fail;have n:=H.drew;have o:=Q.drew;have j:=a7.drew;obtain⟨p0,r,z,C,E⟩:=JG n;have i:=(cells14 o).2.1;refine ZT (fun W=>cl W (aq s 1) (pq g)/\cl W w.heap.size (ii sg)) 13 [[0,1,2,3,4,5,6],[7],[8,9,10,11,12]] ⟨i,p0⟩ ?_;simp only[PI];iterate 7 refine wG ?_
 refine YB rq (fun K p=>?_);go_wp2_with (refine(a1 _ j).mono ?_;rintro e w3 ⟨rfl,I⟩);have R:=n.kO I;have S:=o.kO I;have T:=j.tO I;clear p0 r z C E i o j I a8 a9 au av aw aa H Q a7 G;refine p _ _ (⟨(cells14 S).2.1,(JG R).1⟩) ?_
 try simp only[Act.put,PU]
 refine YB rq (fun K p=>?_);go_wp2_with (refine(M _ T S).mono ?_;rintro e w4 ⟨u,rfl,hu,ab,U⟩;obtain⟨ay,uc,rfl,_⟩:=ZB hu);have ac:=R.keep U (by simpa using fun e=>a4 e.symm);have az:=T.trans U (fun x t=>.inl t);clear S T U R M a1 n;refine p _ _ (⟨(cells14 ab).2.1,(JG ac).1⟩) ?_;iterate 4 refine wG ?_
 refine KB ?_;replace y:=y w4 ay uc (Rd.of_own hu)
 go_wp2_with (
  refine y.mono ?_;clear y;rintro e w5 ⟨rfl,V⟩;have k:=ac.kO (V.alloc (.cells #[ii sg,ii a,ii b,ii f] 383));have ad:=ab.kO (V.alloc (.cells #[ii sg,ii a,ii b,ii f] 383));obtain⟨p0,r,z,C,E⟩:=JG k;have c7:=(cells14 ad).2.2.2.2.2.2.2.1;have g0:=k.frozen 0;have g1:=k.frozen 1;have g2:=k.frozen 2;have g3:=k.frozen 3;have g4:=k.frozen 4;have ax:=k.lt)
 have b0:=az.tO (V.alloc (.cells #[ii sg,ii a,ii b,ii f] 383));obtain⟨b1,b2⟩:=JAp k (.int .i64 sg) (.int .i64 1) (.int .i64 b) (.int .i64 f) (.int .i64 a);obtain⟨b3,b4⟩:=JAp b1 (.int .i64 sg) (.int .i64 1) (.int .i64 b) (.int .i64 f) (.int .i64 a);have ae:=b2.trans b4 (fun x t=>.inl t);obtain⟨y0,y1,y2,y3,y4⟩:=JG b3;exact Af (v:=.tuple #[.agg #[ii sg,ii 1,ii b,ii f,ii a],.bool true]) (by simp[results,results382,go_sem,y0,y1,y2,y3,y4]) rfl ⟨rfl,ad.keep ae (uq a4),b0.trans ae iq⟩
end
section
open Go.RowKit Go.Shelf
attribute [local go_sem] AZ
def PRec.behind (p:PPos) (R:PRec):PPos:=⟨p.seg,p.off+(1+R.blocks.length),R.lsn+1,R.sum,R.mount⟩
structure LiesR (D:PDisk) (B:Nat) (p:PPos) (R:PRec):Prop where
 may:R.May
 lsn:R.lsn=p.lsn
 prev:R.prev=p.prev
 mount:p.mount<=R.mount
 room:p.off+(1+R.blocks.length)<=24
 bytes:∀ k,k<1+R.blocks.length->Go.Proofs.YtfedaknhecbehaaGreat.seg 64 D.now (VC B p.seg+p.off+k)=Go.Proofs.YtfedaknhecbehaaGreat.seg 64 R.bytes k
structure Elder (D:PDisk) (x n L:Nat) (R:PRec):Prop where
 may:R.May
 lsn:R.lsn<L
 room:1+R.blocks.length<=n
 bytes:∀ k,k<1+R.blocks.length->Go.Proofs.YtfedaknhecbehaaGreat.seg 64 D.now (x+k)=Go.Proofs.YtfedaknhecbehaaGreat.seg 64 R.bytes k
def Stale (D:PDisk) (x n L:Nat):Prop:=VU (Go.Proofs.YtfedaknhecbehaaGreat.seg 64 D.now x)\/∃ R,Elder D x n L R
theorem Elder.keepD {x:Nat} {R:PRec} (h:Elder D x n L R) (a:L<=L') (b:∀ y,x<=y->y<x+n->Go.Proofs.YtfedaknhecbehaaGreat.seg 64 D'.now y=Go.Proofs.YtfedaknhecbehaaGreat.seg 64 D.now y):Elder D' x n L' R:=
 ⟨h.may,BC h.lsn a,h.room,fun k c=>by rw[b _ Z (by have:=h.room;omega)];exact h.bytes k c⟩
theorem Stale.keepD {x:Nat} (h:Stale D x n L) (c:0<n) (b:L<=L') (a:∀ y,x<=y->y<x+n->Go.Proofs.YtfedaknhecbehaaGreat.seg 64 D'.now y=Go.Proofs.YtfedaknhecbehaaGreat.seg 64 D.now y):Stale D' x n L':=by
 rcases h with h | ⟨R,h⟩
 . exact .inl (by rw[a x (AG _) Z];exact h)
 exact .inr ⟨R,h.keepD b a⟩
structure OneSt (w:World) (s d g sg:Nat) (q p:PPos) (W:World):Prop where
 lt:s<w.heap.size
 sc:YM W s d g sg q
 pos:Blk W w.heap.size 49 #[ii p.seg,ii p.off,ii p.lsn,ii p.prev,ii p.mount]
 rcd:Blk W (w.heap.size+1) 280 #[zz,zz,zz,zn,zn]
 nxt:Blk W (w.heap.size+1+1) 49 #[zz,zz,zz,zz,zz]
 keep:Keep [s] w W
namespace OneSt
variable {w W W':World} {s d g sg:Nat} {q p:PPos}
theorem kO (h:OneSt w s d g sg q p W) (a:kz W W'):OneSt w s d g sg q p W':=
 ⟨h.lt,Blk.kO h.sc a,h.pos.kO a,h.rcd.kO a,h.nxt.kO a,h.keep.tO a⟩
theorem keepL {l:List Nat} (h:OneSt w s d g sg q p W) (b:Keep l W W') (e:YM W' s d g sg q) (c:∀ x∈l,x=s\/w.heap.size+1+1<x):OneSt w s d g sg q p W':=by
 have i:=h.lt
 exact⟨h.lt,e,h.pos.keep b (fun a=>by have:=c _ a;omega),h.rcd.keep b (fun a=>by have:=c _ a;omega),h.nxt.keep b (fun a=>by have:=c _ a;omega),
  h.keep.trans b (fun x f=>(c x f).elim (fun h=>.inl (by simp[h])) (fun h=>.inr Z))⟩
theorem c1 (h:OneSt w s d g sg q p W):cl W (aq s 1) (pq g):=(cells14 h.sc).2.1
theorem size (h:OneSt w s d g sg q p W):w.heap.size+1+1<W.heap.size:=h.nxt.lt
theorem start (c:YM w s d g sg q):OneSt w s d g sg q p (((w.alloc (.cells #[ii p.seg,ii p.off,ii p.lsn,ii p.prev,ii p.mount] 49)).alloc (.cells #[zz,zz,zz,zn,zn] 280)).alloc (.cells #[zz,zz,zz,zz,zz] 49)):=by
 have e:kz w (w.alloc (.cells #[ii p.seg,ii p.off,ii p.lsn,ii p.prev,ii p.mount] 49)):=kq.alloc _;have b:=(Keep.refl [] (w.alloc (.cells #[ii p.seg,ii p.off,ii p.lsn,ii p.prev,ii p.mount] 49))).alloc (.cells #[zz,zz,zz,zn,zn] 280);have a:=(Keep.refl [] ((w.alloc (.cells #[ii p.seg,ii p.off,ii p.lsn,ii p.prev,ii p.mount] 49)).alloc (.cells #[zz,zz,zz,zn,zn] 280))).alloc (.cells #[zz,zz,zz,zz,zz] 49);refine⟨c.lt,Blk.kO c ((e.tO b).tO a),((Blk.new w _ _).kO b).kO a,(Blk.new1 w _ _ _).kO a,?_,((e.tO b).tO a).zero⟩;have f:=Blk.new1 (w.alloc (.cells #[ii p.seg,ii p.off,ii p.lsn,ii p.prev,ii p.mount] 49)) (.cells #[zz,zz,zz,zn,zn] 280) 49 #[zz,zz,zz,zz,zz]
 rwa [AN] at f
end OneSt
theorem RecHold.keepB {w w':World} {N:Nat} {cs:Array Value} {I:Value} {R:PRec} (h:RecHold w N I Bv R) (d:Blk w b t cs) (i:178≠t) (j:66≠t) (k:5≠t) (e:Keep [b] w w'):RecHold w' N I Bv R:=by
 obtain⟨hi,ls,l,hv,f⟩:=h;exact⟨XB hi e (fun x c a=>by simp at a;subst a;exact own_blk_ne hi d i c),ls,l,XB hv e (fun x c a=>by simp at a;subst a;exact own_blk_ne hv d j c),fun q g=>XB (f q g) e (fun x c a=>by simp at a;subst a;exact own_blk_ne (f q g) d k c)⟩
theorem RecHold.base {w:World} {N b:Nat} {I:Value} {R:PRec} (h:RecHold w N I Bv R) (a:b<=N):RecHold w b I Bv R:=by
 obtain⟨hi,ls,c,hv,d⟩:=h;exact⟨ZC hi a,ls,c,ZC hv a,fun q e=>ZC (d q e) a⟩
theorem KAA {w:World} {s d g B base sg:Nat} {q:PPos} (p:PPos) {R:PRec} {F:List Nat} (hs:YM w s d g sg q) (hg:GeomAt w g B) (h:DiskAt w base d F D) (bv:D.off=false) (hn:D.n=198+4*pgs B) (hf:∀ k,k<D.n->D.faults[k]? = some false)
 (b7:p.seg<=7) (a2:R.May) (b8:p.off+(1+R.blocks.length)<=24) (av:∀ k,k<1+R.blocks.length->Go.Proofs.YtfedaknhecbehaaGreat.seg 64 D.now (VC B p.seg+p.off+k)=Go.Proofs.YtfedaknhecbehaaGreat.seg 64 R.bytes k) (aw:(R.lsn=p.lsn/\R.prev=p.prev/\p.mount<=R.mount)\/¬ R.lsn=p.lsn) (bw:s∉F) (b9:s≠g) :
 Calls prog 383 #[pq s,.agg #[ii p.seg,ii p.off,ii p.lsn,ii p.prev,ii p.mount]] w fun e w'=>
  (R.lsn=p.lsn/\∃ I Bv,e=.returned (.tuple #[.agg #[ii R.mount,ii R.lsn,ii R.prev,I,Bv],
  .agg #[.int .i64 p.seg,.int .i64 (p.off+(1+R.blocks.length):Nat),.int .i64 (R.lsn+1:Nat),.int .i64 R.sum,.int .i64 R.mount],.bool true])/\RecHold w' w.heap.size I Bv R/\YM w' s d g sg q/\Keep [s] w w')\/(¬ R.lsn=p.lsn/\e=.returned (.tuple #[.agg #[zz,zz,zz,zn,zn],.agg #[zz,zz,zz,zz,zz],.bool false])/\YM w' s d g sg q/\Keep [s] w w'):=by
 have a6:=hs.lt;have cf:=(JD hg.pos hg.few).2;have ba:=fun W (hk:Keep [s] w W)=>ConfigG_is W g B (hg.keep hk (by simpa using fun e=>b9 e.symm));have ax:∀ W,Keep [s] w W->cr 34 #[pq g,ii p.seg] W (ii ((VC B p.seg:Nat))):=fun W hk=>Yb W g B (hg.keep hk (by simpa using fun e=>b9 e.symm)) p.seg b7;have ah:=fun W (hk:Keep [s] w W) (f:YM W s d g sg q) k (cg:k<1+R.blocks.length)=>Zp f (h.keep hk (fun x hx J=>by simp at J;subst J;exact bw hx)) bv (VC B p.seg+p.off+k) (by unfold VC;omega) (hf _ (by unfold VC;omega));have ch:=fun W=>QE (P:=prog) underlying28 2 rfl isAgg3 #[ii B,ii 8,ii 24] rfl W;obtain⟨Q,r,ac,ai,aj⟩:=p;simp only at b8 b7 ah av aw ⊢;have ci:IntKind.i64.wrap (((R.lsn:Nat):Int)+1)=(R.lsn+1:Nat):=by rw[AK];have:=a2.lsn;omega
 obtain⟨a,ha⟩:=ex (VC B Q+r);obtain⟨K,M⟩:=ex (VC B Q);have cj:a<=4000:=by rw[ha];unfold VC;omega
 have ak:=JB a2;have bx:=JB aw;obtain⟨m,J⟩:=ex R.blocks.length;have ck:m<=6:=by rw[J];exact AA a2.few6 a2.few
 have cm:r+(1+m)<=24:=by rw[J];exact b8
 have al:=PRec.length_bytes a2;rw[<- J] at ah al ⊢;have bb:=JB ah;have bc:=JB J;obtain⟨bs,ad⟩:=ex R.bytes;rw[<- ad] at al
 have bz:∃ t,Go.Proofs.YtfedaknhecbehaaGreat.seg 64 bs 0=fields (VAy R.mount R.lsn R.prev R.items.length m)++t:=by
  obtain⟨t,ht⟩:=PRec.fields_is a2;refine⟨(QR R.items++t).take 48,?_⟩;unfold Go.Proofs.YtfedaknhecbehaaGreat.seg;rw[ad,ht,<- J,Cg,DD,DJ];have:(fields (VAy R.mount R.lsn R.prev R.items.length m)).length=16:=by simp[VAy,widths]
  rw[this,AH Z]
 have ay:=JB av;rw[<- J,<- ad] at ay;have c2:=JB ad;have cn:((r:Nat):Int)<24:=Z;have co:IntKind.i64.wrap (((K:Nat):Int)+(r:Nat))=(a:Nat):=by rw[AK];omega
 simp only at ax;rw[<- M] at ax;have az:=JB ha;have cp:=JB M;have f:=OneSt.start (p:=⟨Q,r,ac,ai,aj⟩) hs;clear a2 aw av ah ha M hs J ad;go_enter func383,ntmps383;go_wp2_with fail;generalize (((w.alloc (.cells #[ii Q,ii r,ii ac,ii ai,ii aj] 49)).alloc (.cells #[zz,zz,zz,zn,zn] 280)).alloc (.cells #[zz,zz,zz,zz,zz] 49))=w1 at *;replace f:=f.kO (Keep.refl [] w1).drew;obtain⟨p0,j,C,E,G⟩:=JG f.pos;have o:=f.c1;refine ZT (fun W=>cl W (aq s 1) (pq g)/\cl W (aq w.heap.size 1) (ii r)) 8 [[0,1,2,3,4,5],[6,7]] ⟨o,j⟩ ?_;simp only[PI];iterate 6 refine wG ?_
 refine YB rq (fun K M=>?_);go_wp2_with (refine(ba _ f.keep).mono ?_;rintro e w2 ⟨rfl,ae⟩);replace f:=f.kO ae;clear p0 j C E G o;obtain⟨p0,j,C,E,G⟩:=JG f.pos;have o:=f.c1;refine M _ _ (⟨o,j⟩) ?_;iterate 1 refine wG ?_
 refine KB ?_;go_wp2_with fail;replace f:=f.kO (Keep.refl [] w2).drew;clear p0 j C E G o ae;obtain⟨p0,j,C,E,G⟩:=JG f.pos;have o:=f.c1;refine ZT (fun W=>cl W (aq s 1) (pq g)/\cl W w.heap.size (ii Q)/\cl W (aq w.heap.size 1) (ii r)) 9 [[0,1,2,3,4,5,7,8],[6]] ⟨o,p0,j⟩ ?_;simp only[PI];iterate 8 refine wG ?_
 refine YB rq (fun K M=>?_);go_wp2_with (refine(ax _ f.keep).mono ?_;rintro e w4 ⟨rfl,bd⟩);replace f:=f.kO bd;have c4:=f.size;clear p0 j C E G o;obtain⟨p0,j,C,E,G⟩:=JG f.pos;have o:=f.c1;refine M _ _ (⟨o,p0,j⟩) ?_
 try simp only[Act.put,PU]
 refine KB ?_;have O:=JA bb _ f.keep f.sc 0 Z;simp only[BV] at O;rw[<- JA az] at O;have a3:=JA ay 0 Z;rw[BV,<- JA az] at a3;rw[a3] at O;obtain⟨t0,bf⟩:=bz;go_wp2_with (refine O.mono ?_;clear O;rintro e w5 ⟨u,rfl,S,bg,bh⟩;obtain⟨af,uc,rfl,_⟩:=ZB S);replace f:=f.keepL bh bg sq;have am:=XBT uc _ t0 R.mount R.lsn R.prev R.items.length m (Rd.of_own S) bf (JA ak).some (JA ak).few (by have:=(JA ak).few6;have:=JA bc;omega);go_wp2_with (refine am.mono ?_;clear am;rintro e w6 ⟨rfl,b0⟩);replace f:=(f.kO b0).kO (Keep.refl [] w6).drew;have bi:=QB (QB S b0) (Keep.refl [] w6).drew;clear p0 j C E G o;obtain⟨p0,j,C,E,G⟩:=JG f.pos;have o:=f.c1;have bj:¬ (1+((m:Nat):Int)=0):=Z;have l:decide (1+((m:Nat):Int)=0)=false:=AX bj;refine ZT (fun W=>cl W (aq s 1) (pq g)/\cl W (aq w.heap.size 1) (ii r)) 17 [[0,1,2,3,4,5,6,7,8,9,10,11,12,13,14],[15,16]] ⟨o,j⟩ ?_;simp only[PI];iterate 4 refine wG ?_
 refine ZU (.bool false) rq (fun W c5=>by go_simp) ?_;simp only[Act.put,PU];iterate 5 refine wG ?_
 have cq:IntKind.i64.wrap (((r:Nat):Int)+(1+(m:Nat)))=(r+(1+m):Nat):=by rw[AK];omega
 refine ZU (.int .i64 (r+(1+m):Nat)) rq (fun W c5=>by go_simp) ?_;simp only[Act.put,PU];iterate 4 refine wG ?_
 refine YB rq (fun K M=>?_);go_wp2_with (refine(ba _ f.keep).mono ?_;rintro e w7 ⟨rfl,b1⟩);replace f:=f.kO b1;clear p0 j C E G o;obtain⟨p0,j,C,E,G⟩:=JG f.pos;have o:=f.c1;refine M _ _ (⟨o,j⟩) ?_;iterate 1 refine wG ?_
 refine KB ?_;go_wp2_with fail;have bk:=ZC (base':=w.heap.size+1+1+1) (QB bi b1) c4;clear p0 j C E G o b1 b0 bh S bi bg a3 bf bd bj l;have bl:64*(1+m)=bs.length:=al.symm;have bm:=JB bl;clear bl al
 have bn:w7.ownsRow (w.heap.size+1+1+1) 5 1 (.slice af 64 uc) 64 (bys (bs.take (64*1))):=by
  have:Go.Proofs.YtfedaknhecbehaaGreat.seg 64 bs 0=bs.take (64*1):=by simp[Go.Proofs.YtfedaknhecbehaaGreat.seg]
  rw[<- this];exact bk
 clear bk;go_loopw [8,10] (fun b i wr=>∃ (k z:Nat) (af:Option Addr) (uc:Nat),1<=k/\k<=1+m/\Hid (z=64*k)/\b=.slice af z uc/\i=.int .i64 k/\wr.ownsRow (w.heap.size+1+1+1) 5 1 (.slice af z uc) z (bys (bs.take (64*k)))/\OneSt w s d g sg q ⟨Q,r,ac,ai,aj⟩ wr) (fun _ i _=>(1+m)-(intOf i).toNat)
 case atStart=>exact⟨1,64,af,uc,AG _,Z,rfl,rfl,rfl,bn,f⟩
 clear bn f;obtain⟨k,z,bo,vc,cs,ct,hz,rfl,rfl,a7,f⟩:=hrel;by_cases bp:k<1+m
 . have cu:((k:Nat):Int)<1+(m:Nat):=Z
   obtain⟨y,hy⟩:=ex (a+k);have cv:IntKind.i64.wrap (((a:Nat):Int)+(k:Nat))=(y:Nat):=by rw[AK];omega
   have O:=JA bb wr f.keep f.sc k bp;have a3:=JA ay k bp;rw[<- JA az,<- hy] at a3 O;rw[a3] at O;have cw:z<=448:=by have:=JA hz;omega
   have a6:(Go.Proofs.YtfedaknhecbehaaGreat.seg 64 bs k).length=64:=length_seg 64 bs k (by have:=JA bm;omega)
   have bq:bs.take (64*(k+1))=bs.take (64*k)++Go.Proofs.YtfedaknhecbehaaGreat.seg 64 bs k:=by
    unfold Go.Proofs.YtfedaknhecbehaaGreat.seg;rw[Bq k 64,show 64*(k+1)=64*k+64 from Z,List.take_add]
   have c6:=JB bq;have am:=JB (JA hz);clear hy a3 bq a6 hz
   go_wp2_with (first
    | (go_at_call 424
       refine O.mono ?_;clear O;rintro e w2 ⟨u,rfl,S,c7,ae⟩;obtain⟨c8,xc,rfl,_⟩:=ZB S;have an:=f.keepL ae c7 sq;have a8:=XB a7 ae (fun x hx J=>by simp at J;subst J;exact own_blk_ne a7 f.sc (by decide) hx)
       have cx:=an.size)
    | (at_builtin;refine elem8.wp_app rfl (.tmp 82) (.tmp 83) rfl (w.heap.size+1+1+1) (.slice bo z vc) z _ rfl a8 c8 64 xc _ rfl (Rd.of_own S) (fun u S=>by obtain⟨q,_,rfl⟩:=Cv.1 S;rfl) Z Z Z ?_;rintro cy w3 br bt _ _))
   obtain⟨c9,yc,rfl,_⟩:=ZB br;go_roundw
   case rel=>
    have ca:∀ x∈(Value.slice bo z vc).ownBlock.toList,w.heap.size+1+1<x:=fun x hx=>(own_mem a7 hx).1;refine⟨k+1,z+64,c9,yc,Z,Z,by have:=JA am;simp only[Hid];omega,rfl,by go_num,?_,an.keepL bt (Blk.keep an.sc bt (fun J=>own_blk_ne a8 an.sc (by decide) (uq J))) (fun x hx=>.inr (ca x hx))⟩;rw[JA c6,Qj];exact br
   case measure=>simp[intOf];omega
 obtain rfl:k=1+m:=Z;obtain⟨gv,cz,he,d0⟩:=QN a7 (by have:=JA hz;omega);cases he;have ao:=JA hz;have ap:=JA bc;have a8:=a7;rw[AH (by rw[<- JA bm];exact AG _),JA c2,ao] at a8;have b2:=XBk gv 0 vc (JA ak) (w:=wr) ((JBM a7)) (by rw[<- ap];exact Rd.of_own a8) (by rw[<- ap];omega);rw[<- ap,<- ao] at b2;have d1:=JB ao;clear ao a8 ap hz
 have cb:(R.lsn=ac/\R.prev=ai/\((aj:Nat):Int)<=(R.mount:Nat))\/¬ ((R.lsn:Nat):Int)=(ac:Nat):=by
  rcases JA bx with⟨h1,h2,h3⟩ | h1
  . exact .inl ⟨h1,h2,Z⟩
  exact .inr Z
 rcases cb with⟨rfl,rfl,d2⟩ | d3
 all_goals
  go_wp2_with (
   refine b2.mono ?_;clear b2;rintro e w8 ⟨I,Bv,rfl,ar,bu⟩;obtain⟨a9,ic,rfl,_⟩:=ZB ar.its;obtain⟨BA,T,U,rfl⟩:∃ BA T U,Bv=.slice BA T U:=by obtain⟨ls,-,h2,-⟩:=ar.bls;obtain⟨A,c,h,_⟩:=ZB h2;exact⟨A,_,c,h⟩
   have L:=f.kO bu;obtain⟨V,X,Y,z3,z4⟩:=VD L.rcd;obtain⟨p0,j,C,E,G⟩:=JG L.pos;have f0:=L.rcd.frozen 0;have f1:=L.rcd.frozen 1;have f2:=L.rcd.frozen 2;have f3:=L.rcd.frozen 3;have f4:=L.rcd.frozen 4)
  obtain⟨l,aa⟩:=JAp L.rcd (.int .i64 (R.mount:Nat)) (.int .i64 (R.lsn:Nat)) (.int .i64 (R.prev:Nat)) (.slice a9 R.items.length ic) (.slice BA T U);have ag:=ar.keepB L.rcd (by decide) (by decide) (by decide) aa;have ab:=L.pos.keep aa sq;have a0:=L.nxt.keep aa sq;have a4:=Blk.keep L.sc aa (by have:=L.lt;simp;omega);have a5:=L.keep.trans aa iq;have d4:w.heap.size+1+1<w8.heap.size:=L.size;clear V X Y z3 z4 p0 j C E G f0 f1 f2 f3 f4 ar bu aa;generalize (((((w8.setCell ⟨w.heap.size+1,0,none⟩ (.int .i64 (R.mount:Nat))).setCell ⟨w.heap.size+1,1,none⟩ (.int .i64 (R.lsn:Nat))).setCell ⟨w.heap.size+1,2,none⟩ (.int .i64 (R.prev:Nat))).setCell ⟨w.heap.size+1,3,none⟩ (.slice a9 R.items.length ic)).setCell ⟨w.heap.size+1,4,none⟩ (.slice BA T U))=w9 at *
 . have H:=(Keep.refl [] w9).drew
   obtain⟨V,X,Y,z3,z4⟩:=VD (l.kO H);obtain⟨p0,j,C,E,G⟩:=JG (ab.kO H);refine ZT (fun W=>cl W ⟨w.heap.size+1,0,none⟩ R.mount/\cl W ⟨w.heap.size+1,1,none⟩ R.lsn/\cl W ⟨w.heap.size+1,2,none⟩ R.prev/\cl W ⟨w.heap.size+1,3,none⟩ (.slice a9 R.items.length ic)/\cl W ⟨w.heap.size+1,4,none⟩ (.slice BA T U)/\cl W w.heap.size Q/\cl W (aq w.heap.size 1) r) 15 [[0,1,2,3,4,5,6,7,8,9,10,11,12,13],[14]] ⟨V,X,Y,z3,z4,p0,j⟩ ?_;simp only[PI];iterate 14 refine wG ?_
   refine YB rq (fun K M=>?_);replace l:=l.kO H;replace ag:=ag.kO H;replace ab:=ab.kO H;replace a0:=a0.kO H;replace a4:=Blk.kO a4 H;replace a5:=a5.tO H;clear H;generalize w9.drew=wa at *;have b3:=l.lt;have f0:=l.frozen 0;have f1:=l.frozen 1;have f2:=l.frozen 2;have f3:=l.frozen 3;have f4:=l.frozen 4;go_wp2_with fail;obtain⟨au,N⟩:=JAp l (.int .i64 (R.mount:Nat)) (.int .i64 (R.lsn:Nat)) (.int .i64 (R.prev:Nat)) (.slice a9 R.items.length ic) (.slice BA T U);have cc:=ag.keepB l (by decide) (by decide) (by decide) N;have cd:=ab.keep N sq;have n:=a0.keep N sq;have b4:=Blk.keep a4 N (by have:=a6;simp;omega);have b5:=a5.trans N iq;clear V X Y z3 z4 p0 j C E G f0 f1 f2 f3 f4;obtain⟨V,X,Y,z3,z4⟩:=VD au;obtain⟨p0,j,C,E,G⟩:=JG cd;refine M _ _ (⟨V,X,Y,z3,z4,p0,j⟩) ?_
   try simp only[Act.put,PU]
   refine KB ?_;clear N l ab a0 a4 a5 ag b3;generalize (((((wa.setCell ⟨w.heap.size+1,0,none⟩ (.int .i64 (R.mount:Nat))).setCell ⟨w.heap.size+1,1,none⟩ (.int .i64 (R.lsn:Nat))).setCell ⟨w.heap.size+1,2,none⟩ (.int .i64 (R.prev:Nat))).setCell ⟨w.heap.size+1,3,none⟩ (.slice a9 R.items.length ic)).setCell ⟨w.heap.size+1,4,none⟩ (.slice BA T U))=wb at *;have f0:=n.frozen 0;have f1:=n.frozen 1;have f2:=n.frozen 2;have f3:=n.frozen 3;have f4:=n.frozen 4;have ce:=n.lt;obtain⟨n0,n1,n2,n3,n4⟩:=JG n;go_wp2_with fail;obtain⟨b6,a1⟩:=JAp n (.int .i64 (Q:Nat)) (.int .i64 ((r:Nat)+(1+(m:Nat)))) (.int .i64 ((R.lsn:Nat)+1)) (.int .i64 (R.sum:Nat)) (.int .i64 (R.mount:Nat));obtain⟨y0,y1,y2,y3,y4⟩:=JG b6;obtain⟨x0,x1,x2,x3,x4⟩:=VD (au.keep a1 sq)
   refine Af (v:=.tuple #[.agg #[R.mount,R.lsn,R.prev,.slice a9 R.items.length ic,.slice BA T U],.agg #[ii Q,ii ((r:Nat)+(1+(m:Nat))),ii ((R.lsn:Nat)+1),ii R.sum,ii R.mount],.bool true])
    (by simp[results,results383,go_sem,x0,x1,x2,x3,x4,y0,y1,y2,y3,y4]) rfl ⟨_,_,by push_cast;rfl,(cc.keepB n (by decide) (by decide) (by decide) a1).base ?_,Blk.keep b4 a1 (by have:=a6;simp;omega),b5.trans a1 iq⟩
   have:=f.size;omega
 have H:=(Keep.refl [] w9).drew;obtain⟨n0,n1,n2,n3,n4⟩:=JG (a0.kO H);refine ZT (fun W=>cl W ⟨w.heap.size+1+1,0,none⟩ zz/\cl W ⟨w.heap.size+1+1,1,none⟩ zz/\cl W ⟨w.heap.size+1+1,2,none⟩ zz/\cl W ⟨w.heap.size+1+1,3,none⟩ zz/\cl W ⟨w.heap.size+1+1,4,none⟩ zz) 3 [[0,1],[2]] ⟨n0,n1,n2,n3,n4⟩ ?_;simp only[PI];iterate 2 refine wG ?_
 refine YB rq (fun K M=>?_);replace l:=l.kO H;replace a0:=a0.kO H;replace a4:=Blk.kO a4 H;replace a5:=a5.tO H;clear H ag ab;generalize w9.drew=wa at *;have b3:=l.lt;obtain⟨V,X,Y,z3,z4⟩:=VD l;have f0:=l.frozen 0;have f1:=l.frozen 1;have f2:=l.frozen 2;have f3:=l.frozen 3;have f4:=l.frozen 4;go_wp2_with fail;obtain⟨au,N⟩:=JAp l (.int .i64 0) (.int .i64 0) (.int .i64 0) (.slice none 0 0) (.slice none 0 0);have n:=a0.keep N sq;have b4:=Blk.keep a4 N (by have:=a6;simp;omega);have b5:=a5.trans N iq;clear n0 n1 n2 n3 n4 V X Y z3 z4 f0 f1 f2 f3 f4 N b3;obtain⟨n0,n1,n2,n3,n4⟩:=JG n;refine M _ _ (⟨n0,n1,n2,n3,n4⟩) ?_
 try simp only[Act.put,PU]
 refine KB ?_;generalize (((((wa.setCell ⟨w.heap.size+1,0,none⟩ (.int .i64 0)).setCell ⟨w.heap.size+1,1,none⟩ (.int .i64 0)).setCell ⟨w.heap.size+1,2,none⟩ (.int .i64 0)).setCell ⟨w.heap.size+1,3,none⟩ (.slice none 0 0)).setCell ⟨w.heap.size+1,4,none⟩ (.slice none 0 0))=wb at *;have f0:=n.frozen 0;have f1:=n.frozen 1;have f2:=n.frozen 2;have f3:=n.frozen 3;have f4:=n.frozen 4;have ce:=n.lt;go_wp2_with fail;obtain⟨b6,a1⟩:=JAp n (.int .i64 0) (.int .i64 0) (.int .i64 0) (.int .i64 0) (.int .i64 0);obtain⟨y0,y1,y2,y3,y4⟩:=JG b6;obtain⟨x0,x1,x2,x3,x4⟩:=VD (au.keep a1 sq)
 exact Af (v:=.tuple #[.agg #[zz,zz,zz,zn,zn],.agg #[zz,zz,zz,zz,zz],.bool false])
  (by simp[results,results383,go_sem,x0,x1,x2,x3,x4,y0,y1,y2,y3,y4]) rfl (.inr ⟨Z,rfl,Blk.keep b4 a1 (by have:=a6;simp;omega),b5.trans a1 iq⟩)
theorem ZAi {w:World} {s d g B base sg:Nat} {q p:PPos} {R:PRec} {F:List Nat} (b:YM w s d g sg q) (c:GeomAt w g B) (h:DiskAt w base d F D) (f:D.off=false) (i:D.n=198+4*pgs B) (j:∀ k,k<D.n->D.faults[k]? = some false)
 (l:p.seg<=7) (a:LiesR D B p R) (m:s∉F) (n:s≠g) :
 Calls prog 383 #[pq s,.agg #[ii p.seg,ii p.off,ii p.lsn,ii p.prev,ii p.mount]] w fun e w'=>∃ I Bv,e=.returned (.tuple #[.agg #[ii R.mount,ii R.lsn,ii R.prev,I,Bv],
  .agg #[.int .i64 p.seg,.int .i64 (p.off+(1+R.blocks.length):Nat),.int .i64 (R.lsn+1:Nat),.int .i64 R.sum,.int .i64 R.mount],.bool true])/\RecHold w' w.heap.size I Bv R/\YM w' s d g sg q/\Keep [s] w w':=by
 refine(KAA p b c h f i j l a.may a.room a.bytes (.inl ⟨a.lsn,a.prev,a.mount⟩) m n).mono ?_;rintro e w' (⟨_,h⟩ | ⟨h,_⟩)
 . exact h
 exact absurd a.lsn h
end
section
open Go.RowKit Go.Shelf
attribute [local go_sem] AZ
theorem YAC {w:World} {s d g B base sg:Nat} {q:PPos} (p:PPos) {F:List Nat} (hs:YM w s d g sg q) (V:GeomAt w g B) (h:DiskAt w base d F D) (af:D.off=false) (hn:D.n=198+4*pgs B) (hf:∀ k,k<D.n->D.faults[k]? = some false)
 (a7:p.seg<=7) (X:p.off=24\/p.off<24/\VU (Go.Proofs.YtfedaknhecbehaaGreat.seg 64 D.now (VC B p.seg+p.off))) (ag:s∉F) (a8:s≠g) :
 Calls prog 383 #[pq s,.agg #[ii p.seg,ii p.off,ii p.lsn,ii p.prev,ii p.mount]] w fun e w'=>e=.returned (.tuple #[.agg #[zz,zz,zz,zn,zn],.agg #[zz,zz,zz,zz,zz],.bool false])/\YM w' s d g sg q/\Keep [s] w w':=by
 have Y:=hs.lt;have ap:=(JD V.pos V.few).2;have ah:=fun W (M:Keep [s] w W)=>ConfigG_is W g B (V.keep M (by simpa using fun e=>a8 e.symm));have a1:∀ W,Keep [s] w W->cr 34 #[pq g,ii p.seg] W (ii ((VC B p.seg:Nat))):=fun W M=>Yb W g B (V.keep M (by simpa using fun e=>a8 e.symm)) p.seg a7;have a0:=fun W (M:Keep [s] w W) (b:YM W s d g sg q) (ho:p.off<24)=>Zp b (h.keep M (fun x hx hm=>by simp at hm;subst hm;exact ag hx)) af (VC B p.seg+p.off) (by unfold VC;omega) (hf _ (by unfold VC;omega));have ar:=fun W=>QE (P:=prog) underlying28 2 rfl isAgg3 #[ii B,ii 8,ii 24] rfl W;obtain⟨N,l,a9,aa,ab⟩:=p;obtain⟨a,ha⟩:=ex (VC B N+l);obtain⟨K,f⟩:=ex (VC B N);simp only at a1 a0 X a7;have ac:l<24->IntKind.i64.wrap (((K:Nat):Int)+(l:Nat))=(a:Nat):=fun ho=>by rw[AK];rw[f,ha];unfold VC;omega
 rw[<- ha] at a0 X;rw[<- f] at a1;have b:=OneSt.start (p:=⟨N,l,a9,aa,ab⟩) hs;have ai:=JB a0;clear ha f hs a0;go_enter func383,ntmps383;go_wp2_with fail;generalize (((w.alloc (.cells #[ii N,ii l,ii a9,ii aa,ii ab] 49)).alloc (.cells #[zz,zz,zz,zn,zn] 280)).alloc (.cells #[zz,zz,zz,zz,zz] 49))=w1 at *;replace b:=b.kO (Keep.refl [] w1).drew;obtain⟨p0,i,H,I,J⟩:=JG b.pos;have j:=b.c1;refine ZT (fun W=>cl W (aq s 1) (pq g)/\cl W (aq w.heap.size 1) (ii l)) 8 [[0,1,2,3,4,5],[6,7]] ⟨j,i⟩ ?_;simp only[PI];iterate 6 refine wG ?_
 refine YB rq (fun K f=>?_);go_wp2_with (refine(ah _ b.keep).mono ?_;rintro e w2 ⟨rfl,a2⟩);replace b:=b.kO a2;clear p0 i H I J j;obtain⟨p0,i,H,I,J⟩:=JG b.pos;have j:=b.c1;refine f _ _ (⟨j,i⟩) ?_;iterate 1 refine wG ?_
 refine KB ?_;rcases X with X | ⟨ho,hz⟩
 . have aj:(24:Int)<=(l:Nat):=Z
   go_wp2_with fail;replace b:=b.kO (Keep.refl [] w2).drew;clear p0 i H I J j a2;obtain⟨m,n,o,r,t⟩:=VD b.rcd;obtain⟨y,z,A,C,E⟩:=JG b.nxt;refine ZT (fun W=>cl W ⟨w.heap.size+1,0,none⟩ zz/\cl W ⟨w.heap.size+1,1,none⟩ zz/\cl W ⟨w.heap.size+1,2,none⟩ zz/\cl W ⟨w.heap.size+1,3,none⟩ zn/\cl W ⟨w.heap.size+1,4,none⟩ zn/\cl W ⟨w.heap.size+1+1,0,none⟩ zz/\cl W ⟨w.heap.size+1+1,1,none⟩ zz/\cl W ⟨w.heap.size+1+1,2,none⟩ zz/\cl W ⟨w.heap.size+1+1,3,none⟩ zz/\cl W ⟨w.heap.size+1+1,4,none⟩ zz) 3 [[0,1],[2]] ⟨m,n,o,r,t,y,z,A,C,E⟩ ?_;simp only[PI];iterate 2 refine wG ?_
   refine YB rq (fun K f=>?_);generalize w2.drew=wa at *;have a3:=b.rcd.lt;have O:=b.rcd.frozen 0;have Q:=b.rcd.frozen 1;have R:=b.rcd.frozen 2;have S:=b.rcd.frozen 3;have T:=b.rcd.frozen 4;go_wp2_with fail;obtain⟨U,G⟩:=JAp b.rcd (.int .i64 0) (.int .i64 0) (.int .i64 0) (.slice none 0 0) (.slice none 0 0);have c:=b.nxt.keep G sq;have a4:=Blk.keep b.sc G (by have:=Y;simp;omega);have a5:=b.keep.trans G iq;clear m n o r t y z A C E O Q R S T G a3;obtain⟨m,n,o,r,t⟩:=VD U;obtain⟨y,z,A,C,E⟩:=JG c;refine f _ _ (⟨m,n,o,r,t,y,z,A,C,E⟩) ?_
   try simp only[Act.put,PU]
   refine KB ?_;generalize (((((wa.setCell ⟨w.heap.size+1,0,none⟩ (.int .i64 0)).setCell ⟨w.heap.size+1,1,none⟩ (.int .i64 0)).setCell ⟨w.heap.size+1,2,none⟩ (.int .i64 0)).setCell ⟨w.heap.size+1,3,none⟩ (.slice none 0 0)).setCell ⟨w.heap.size+1,4,none⟩ (.slice none 0 0))=wb at *;have O:=c.frozen 0;have Q:=c.frozen 1;have R:=c.frozen 2;have S:=c.frozen 3;have T:=c.frozen 4;have ak:=c.lt;go_wp2_with fail;obtain⟨a6,L⟩:=JAp c (.int .i64 0) (.int .i64 0) (.int .i64 0) (.int .i64 0) (.int .i64 0);obtain⟨y0,y1,y2,y3,y4⟩:=JG a6;obtain⟨x0,x1,x2,x3,x4⟩:=VD (U.keep L sq)
   exact Af (v:=.tuple #[.agg #[zz,zz,zz,zn,zn],.agg #[zz,zz,zz,zz,zz],.bool false])
    (by simp[results,results383,go_sem,x0,x1,x2,x3,x4,y0,y1,y2,y3,y4]) rfl ⟨rfl,Blk.keep a4 L (by have:=Y;simp;omega),a5.trans L iq⟩
 have aj:((l:Nat):Int)<24:=Z;replace ac:=ac ho;go_wp2_with fail;replace b:=b.kO (Keep.refl [] w2).drew;clear p0 i H I J j a2;obtain⟨p0,i,H,I,J⟩:=JG b.pos;have j:=b.c1;refine ZT (fun W=>cl W (aq s 1) (pq g)/\cl W w.heap.size (ii N)/\cl W (aq w.heap.size 1) (ii l)) 9 [[0,1,2,3,4,5,7,8],[6]] ⟨j,p0,i⟩ ?_;simp only[PI];iterate 8 refine wG ?_
 refine YB rq (fun K f=>?_);go_wp2_with (refine(a1 _ b.keep).mono ?_;rintro e w4 ⟨rfl,al⟩);replace b:=b.kO al;clear p0 i H I J j;obtain⟨p0,i,H,I,J⟩:=JG b.pos;have j:=b.c1;refine f _ _ (⟨j,p0,i⟩) ?_
 try simp only[Act.put,PU]
 refine KB ?_;have ad:=JA ai _ b.keep b.sc ho;go_wp2_with (refine ad.mono ?_;clear ad;rintro e w5 ⟨u,rfl,hu,am,an⟩;obtain⟨au,uc,rfl,_⟩:=ZB hu);replace b:=b.keepL an am sq;have ae:=QAz uc (Rd.of_own hu) hz;go_wp2_with (refine ae.mono ?_;clear ae;rintro e w6 ⟨rfl,ao⟩);replace b:=(b.kO ao).kO (Keep.refl [] w6).drew;refine ZT (fun _=>True) 17 [[0,1,2,3,4,5,6,7,8,9,10,11,12,13,14],[15,16]] trivial ?_;simp only[PI];iterate 7 refine wG ?_
 iterate 8 (refine VQ rq ?_;simp only[Act.put,PU])
 refine XL rq trivial ?_;simp only[Act.put,PU];iterate 1 (refine VQ rq ?_;simp only[Act.put,PU])
 refine KB ?_;go_wp2_with fail;replace b:=b.kO (Keep.refl [] _).drew;obtain⟨m,n,o,r,t⟩:=VD b.rcd;obtain⟨y,z,A,C,E⟩:=JG b.nxt;refine ZT (fun W=>cl W ⟨w.heap.size+1,0,none⟩ zz/\cl W ⟨w.heap.size+1,1,none⟩ zz/\cl W ⟨w.heap.size+1,2,none⟩ zz/\cl W ⟨w.heap.size+1,3,none⟩ zn/\cl W ⟨w.heap.size+1,4,none⟩ zn/\cl W ⟨w.heap.size+1+1,0,none⟩ zz/\cl W ⟨w.heap.size+1+1,1,none⟩ zz/\cl W ⟨w.heap.size+1+1,2,none⟩ zz/\cl W ⟨w.heap.size+1+1,3,none⟩ zz/\cl W ⟨w.heap.size+1+1,4,none⟩ zz) 3 [[0,1],[2]] ⟨m,n,o,r,t,y,z,A,C,E⟩ ?_;simp only[PI];iterate 2 refine wG ?_
 refine YB rq (fun K f=>?_);generalize w6.drew.drew=wa at *;have a3:=b.rcd.lt;have O:=b.rcd.frozen 0;have Q:=b.rcd.frozen 1;have R:=b.rcd.frozen 2;have S:=b.rcd.frozen 3;have T:=b.rcd.frozen 4;go_wp2_with fail;obtain⟨U,G⟩:=JAp b.rcd (.int .i64 0) (.int .i64 0) (.int .i64 0) (.slice none 0 0) (.slice none 0 0);have c:=b.nxt.keep G sq;have a4:=Blk.keep b.sc G (by have:=Y;simp;omega);have a5:=b.keep.trans G iq;clear m n o r t y z A C E O Q R S T G a3;obtain⟨m,n,o,r,t⟩:=VD U;obtain⟨y,z,A,C,E⟩:=JG c;refine f _ _ (⟨m,n,o,r,t,y,z,A,C,E⟩) ?_
 try simp only[Act.put,PU]
 refine KB ?_;generalize (((((wa.setCell ⟨w.heap.size+1,0,none⟩ (.int .i64 0)).setCell ⟨w.heap.size+1,1,none⟩ (.int .i64 0)).setCell ⟨w.heap.size+1,2,none⟩ (.int .i64 0)).setCell ⟨w.heap.size+1,3,none⟩ (.slice none 0 0)).setCell ⟨w.heap.size+1,4,none⟩ (.slice none 0 0))=wb at *;have O:=c.frozen 0;have Q:=c.frozen 1;have R:=c.frozen 2;have S:=c.frozen 3;have T:=c.frozen 4;have ak:=c.lt;go_wp2_with fail;obtain⟨a6,L⟩:=JAp c (.int .i64 0) (.int .i64 0) (.int .i64 0) (.int .i64 0) (.int .i64 0);obtain⟨y0,y1,y2,y3,y4⟩:=JG a6;obtain⟨x0,x1,x2,x3,x4⟩:=VD (U.keep L sq)
 exact Af (v:=.tuple #[.agg #[zz,zz,zz,zn,zn],.agg #[zz,zz,zz,zz,zz],.bool false])
  (by simp[results,results383,go_sem,x0,x1,x2,x3,x4,y0,y1,y2,y3,y4]) rfl ⟨rfl,Blk.keep a4 L (by have:=Y;simp;omega),a5.trans L iq⟩
end
section
open Go.RowKit Go.Shelf
attribute [local go_sem] AZ
theorem VAW {w:World} {s d g B base sg:Nat} {q:PPos} (p:PPos) {R:PRec} {F:List Nat} (b:YM w s d g sg q) (c:GeomAt w g B) (h:DiskAt w base d F D) (f:D.off=false) (i:D.n=198+4*pgs B) (j:∀ k,k<D.n->D.faults[k]? = some false)
 (l:p.seg<=7) (o:p.off<24) (a:Elder D (VC B p.seg+p.off) (24-p.off) p.lsn R) (m:s∉F) (n:s≠g) :
 Calls prog 383 #[pq s,.agg #[ii p.seg,ii p.off,ii p.lsn,ii p.prev,ii p.mount]] w fun e w'=>e=.returned (.tuple #[.agg #[zz,zz,zz,zn,zn],.agg #[zz,zz,zz,zz,zz],.bool false])/\YM w' s d g sg q/\Keep [s] w w':=by
 refine(KAA p b c h f i j l a.may (by have:=a.room;omega) a.bytes (.inr (by have:=a.lsn;omega)) m n).mono ?_;rintro e w' (⟨h,_⟩ | ⟨_,h⟩)
 . exact absurd h (by have:=a.lsn;omega)
 exact h
theorem YAl {w:World} {s d g B base sg:Nat} {q:PPos} (p:PPos) {F:List Nat} (b:YM w s d g sg q) (c:GeomAt w g B) (h:DiskAt w base d F D) (f:D.off=false) (i:D.n=198+4*pgs B) (j:∀ k,k<D.n->D.faults[k]? = some false)
 (l:p.seg<=7) (a:p.off=24\/p.off<24/\Stale D (VC B p.seg+p.off) (24-p.off) p.lsn) (m:s∉F) (n:s≠g) :
 Calls prog 383 #[pq s,.agg #[ii p.seg,ii p.off,ii p.lsn,ii p.prev,ii p.mount]] w fun e w'=>e=.returned (.tuple #[.agg #[zz,zz,zz,zn,zn],.agg #[zz,zz,zz,zz,zz],.bool false])/\YM w' s d g sg q/\Keep [s] w w':=by
 rcases a with a | ⟨o,a | ⟨R,a⟩⟩
 . exact YAC p b c h f i j l (.inl a) m n
 . exact YAC p b c h f i j l (.inr ⟨o,a⟩) m n
 exact VAW p b c h f i j l o a m n
end
section
open Go.RowKit Go.Shelf
attribute [local go_sem] AZ
theorem KBH (n:Nat) (v:Value) (w:World) (hv:v.oneCell'=true) :
 CallsIn Fence.wide n prog 80 #[v] w fun e w'=>e=.returned (.func (.func 209) #[] #[pq w.heap.size])/\w'=w.alloc (.cells #[v] 35):=by
 refine(AR (n:=n)).2 ?_;go_enter func80,ntmps80
 go_wp2
 go_ret;exact⟨rfl,rfl⟩