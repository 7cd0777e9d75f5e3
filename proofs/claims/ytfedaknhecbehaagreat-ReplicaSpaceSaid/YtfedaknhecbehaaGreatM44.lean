/- Lemmas of the proof, with their conditions. -/
import Derived.Test.YtfedaknhecbehaaGreatM43
import Derived.Test.YtfedaknhecbehaaGreatM42
import Derived.Test.YtfedaknhecbehaaGreatM41
namespace Go.Proofs.YtfedaknhecbehaaGreat
open Tryz Go.RowKit
variable {D D':PDisk} {B sg s d g base sb b a k j i e L:Nat} {p0 q p:PPos} {b0:Bool} {w:World} {F:List Nat} {W W':PW} {H:Nat->PPos} {us us':List (Nat×Nat)} {st':Nat->Nat} {bs:List UInt8} {l:List Int} {S S':PS}
set_option linter.all false
set_option maxHeartbeats 4000000
set_option maxRecDepth 100000
section
open Go.RowKit Go.Shelf
attribute [local go_sem] AW
def Jp (D:PDisk) (B:Nat):PPos->List PRec->Prop
 | p,[]=>p.off=24\/p.off<24/\Stale D (JC B p.seg+p.off) (24-p.off) p.lsn
 | p,R :: Rs=>LiesR D B p R/\(YS R.items=true/\Rs=[]\/YS R.items=false/\Jp D B (R.behind p) Rs)
def Begins (D:PDisk) (B sg:Nat) (p0:PPos) (b0:Bool) (Rs:List PRec):Prop:=
 (b0=true/\p0.seg=sg/\p0.off=1/\(1<=p0.mount/\p0.mount<=2147483647)/\(1<=p0.lsn/\p0.lsn<=2147483647)/\p0.prev<=4294967295/\Go.Proofs.YtfedaknhecbehaaGreat.seg 64 D.now (JC B sg)=Js sg p0.mount p0.lsn p0.prev/\Jp D B p0 Rs) \/
 (b0=false/\p0=⟨sg,0,0,0,0⟩/\Rs=[]/\Go.Proofs.YtfedaknhecbehaaGreat.seg 64 D.now (JC B sg)=List.replicate 64 0)
theorem Begins.seg {Rs:List PRec} (h:Begins D B sg p0 b0 Rs):p0.seg=sg:=by
 rcases h with⟨_,h,_⟩ | ⟨_,rfl,_⟩
 . exact h
 rfl
theorem Begins.run {Rs:List PRec} (h:Begins D B sg p0 b0 Rs):b0=true/\Jp D B p0 Rs\/b0=false/\Rs=[]:=by
 rcases h with⟨a,_,_,_,_,_,_,b⟩ | ⟨a,_,b,_⟩
 . exact .inl ⟨a,b⟩
 exact .inr ⟨a,b⟩
theorem JAg (h:YM w s d g sg q) (C:GeomAt w g B) (ac:DiskAt w base d F D) (ad:D.off=false) (hn:D.n=198+4*pgs B) (ae:sg<=7) (S:D.faults[JC B sg]? = some false)
 (T:Go.Proofs.YtfedaknhecbehaaGreat.seg 64 D.now (JC B sg)=List.replicate 64 0) (af:s∉F) (E:s≠g) :
 Calls prog 382 #[pq s] w fun e w'=>e=.returned (.tuple #[.agg #[ii sg,zz,zz,zz,zz],.bool false])/\YM w' s d g sg q/\Keep [s] w w':=by
 have U:=fun W (i:Keep [s] w W)=>Jw (C.keep i (by simpa using fun e=>E e.symm)) (sg:Nat);rw[AH Z] at U;have ag:=fun W (i:Keep [s] w W)=>ConfigG_is W g B (C.keep i (by simpa using fun e=>E e.symm));have V:∀ W,Keep [s] w W->cr 34 #[pq g,ii sg] W (ii ((JC B sg:Nat))):=fun W i=>Zg W g B (C.keep i (by simpa using fun e=>E e.symm)) sg ae;have G:=fun W (i:Keep [s] w W) (X:YM W s d g sg q)=>Km X (ac.keep i (fun x H Y=>by simp at Y;subst Y;exact af H)) ad (JC B sg) (by unfold JC;omega) S;rw[T] at G;generalize JC B sg=K at *;have n:=fun W A c (ha:Rd W A 64 (bys (List.replicate 64 0)))=>ZAW c ha;generalize (List.replicate 64 (0:UInt8))=hb at *;clear T S hn;have X:=h;have b0:=fun W=>KE (P:=prog) underlying28 2 rfl isAgg3 #[ii B,ii 8,ii 24] rfl W;unfold YM at h;obtain⟨ah,a,c2,ai,c4,c5,c6,c7,c8,c9,aj,ak,al,am⟩:=cells14 h;have an:=h.frozen 13;have ao:=h.lt;have I:=h.set 13 (.int .i64 0);have a0:Keep [s] w (w.setCell (aq s 13) (.int .i64 0)):=kq.sc s 13;have a1:s≠w.heap.size:=Z
 simp only[PU] at I;go_enter func382,ntmps382;go_wp2_with fail;have J:=Blk.new (w.setCell (aq s 13) (.int .i64 0)) 49 #[ii sg,zz,zz,zz,zz];rw[World.size_setCell] at J;have a2:=a0.alloc (.cells #[ii sg,zz,zz,zz,zz] 49);have a3:=I.kO ((Keep.refl [] _).alloc (.cells #[ii sg,zz,zz,zz,zz] 49));clear I a0 an ao ah a c2 ai c4 c5 c6 c7 c8 c9 aj ak al am h;generalize ((w.setCell (aq s 13) (.int .i64 0)).alloc (.cells #[ii sg,zz,zz,zz,zz] 49))=w1 at *;have j:=J.drew;have k:=a3.drew;have b:=a2.drew;obtain⟨p0,m,o,p,r⟩:=cells5 j;have a:=(cells14 k).2.1;refine ZT (fun W=>cl W (aq s 1) (pq g)/\cl W w.heap.size (ii sg)/\cl W (aq w.heap.size 1) zz) 22 [[0,1,2,3,4,5],[6,7,8,9,10,11,12,13,14,15,16,17,18,19],[20,21]] ⟨a,p0,m⟩ ?_;simp only[PI];iterate 6 refine wG ?_
 refine JB rq fun K l=>?_;go_wp2_with (refine(U _ b).mono ?_;rintro e w2 ⟨rfl,rfl⟩);refine l _ _ (⟨a,p0,m⟩) ?_
 iterate 13 refine wG ?_
 refine JB rq fun K l=>?_;go_wp2_with (refine(ag _ b).mono ?_;rintro e w2 ⟨rfl,t⟩);have y:=j.kO t;have L:=k.kO t;have a4:=b.tO t;obtain⟨a5,a6,ap,ar,au⟩:=cells5 y;have a7:=(cells14 L).2.1;refine l _ _ (⟨a7,a5,a6⟩) ?_
 iterate 1 refine wG ?_
 refine VB ?_;clear p0 m o p r a j k b J a2 a3;have av:=y.lt;go_wp2_with fail;have j:=y.drew;have k:=L.drew;have b:=a4.drew;obtain⟨p0,m,o,p,r⟩:=cells5 j;have a:=(cells14 k).2.1;refine ZT (fun W=>cl W (aq s 1) (pq g)/\cl W w.heap.size (ii sg)) 13 [[0,1,2,3,4,5,6],[7],[8,9,10,11,12]] ⟨a,p0⟩ ?_;simp only[PI];iterate 7 refine wG ?_
 refine JB rq fun K l=>?_;go_wp2_with (refine(V _ b).mono ?_;rintro e w3 ⟨rfl,z⟩);have M:=j.kO z;have N:=k.kO z;have O:=b.tO z;clear p0 m o p r a k b z a5 a6 ap ar au a7 y L a4 t;refine l _ _ (⟨(cells14 N).2.1,(cells5 M).1⟩) ?_
 try simp only[Act.put,PU]
 refine JB rq fun K l=>?_;go_wp2_with (refine(G _ O N).mono ?_;rintro e w4 ⟨u,rfl,hu,a8,Q⟩;obtain⟨aw,uc,rfl,_⟩:=XB hu);have a9:=M.keep Q (by simpa using fun e=>a1 e.symm);have ax:=O.trans Q (fun x H=>.inl H);clear N O Q M G V j;refine l _ _ (⟨(cells14 a8).2.1,(cells5 a9).1⟩) ?_
 iterate 4 refine wG ?_
 refine VB ?_;replace n:=n w4 aw uc (Rd.of_own hu)
 go_wp2_with (
  refine n.mono ?_;clear n;rintro e w5 ⟨rfl,R⟩;have f:=a9.kO (R.alloc (.cells #[zz,zz,zz,zz] 383));have aa:=a8.kO (R.alloc (.cells #[zz,zz,zz,zz] 383));obtain⟨p0,m,o,p,r⟩:=cells5 f;have c7:=(cells14 aa).2.2.2.2.2.2.2.1;have g0:=f.frozen 0;have g1:=f.frozen 1;have g2:=f.frozen 2;have g3:=f.frozen 3;have g4:=f.frozen 4;have av:=f.lt)
 have ay:=ax.tO (R.alloc (.cells #[zz,zz,zz,zz] 383));obtain⟨az,ab⟩:=YAk f (.int .i64 sg) (.int .i64 0) (.int .i64 0) (.int .i64 0) (.int .i64 0);obtain⟨y0,y1,y2,y3,y4⟩:=cells5 az;exact Ac (v:=.tuple #[.agg #[ii sg,zz,zz,zz,zz],.bool false]) (by simp[results,results382,go_sem,y0,y1,y2,y3,y4]) rfl ⟨rfl,aa.keep ab (uq a1),ay.trans ab iq⟩
theorem KAg {Rs:List PRec} (b:YM w s d g sg q) (c:GeomAt w g B) (h:DiskAt w base d F D) (f:D.off=false) (i:D.n=198+4*pgs B) (j:sg<=7) (k:D.faults[JC B sg]? = some false)
 (u:Begins D B sg p0 b0 Rs) (l:s∉F) (m:s≠g) :
 Calls prog 382 #[pq s] w fun e w'=>e=.returned (.tuple #[.agg #[p0.seg,p0.off,p0.lsn,p0.prev,p0.mount],.bool b0])/\YM w' s d g sg q/\Keep [s] w w':=by
 rcases u with⟨rfl,n,o,p,r,t,a,-⟩ | ⟨rfl,rfl,rfl,a⟩
 . obtain⟨A,C,v,y,z⟩:=p0
   simp only at n o p r t a;subst n o;exact YAj z v y b c h f i j k p r t a l m
 exact JAg b c h f i j k a l m
end
section
open Go.RowKit Go.Shelf
attribute [local go_sem] AW
def placed:PPos->List PRec->List (PPos×PRec)
 | _,[]=>[]
 | p,R :: Rs=>(p,R) :: placed (R.behind p) Rs
abbrev PTold:=PPos×PRec×Value×Value
def VAr (x:PTold):Array Value:=#[.agg #[ii x.1.seg,ii x.1.off,ii x.1.lsn,ii x.1.prev,ii x.1.mount],.agg #[ii x.2.1.mount,ii x.2.1.lsn,ii x.2.1.prev,x.2.2.1,x.2.2.2]]
def KBU (L:List (PPos×PRec)) (pre:List PTold) (x:PTold) (W:World):Prop:=L[pre.length]? = some (x.1,x.2.1)/\RecHold W 0 x.2.2.1 x.2.2.2 x.2.1
def YBS (L:List (PPos×PRec)) (s d g sg:Nat) (xs:List PTold) (W:World):Prop:=xs.map (fun x=>(x.1,x.2.1))=L/\∃ q,YM W s d g sg q
theorem ZAr {W:World} {t:TypeId} {f g i j k l m n q r u v w o:Value} (h:Blk W s t #[f,g,i,j,k,l,m,n,q,r,u,v,w,o]) (a b c d e:Value) :
 Blk (((((W.setCell (aq s 8) a).setCell (aq s 9) b).setCell (aq s 10) c).setCell (aq s 11) d).setCell (aq s 12) e) s t #[f,g,i,j,k,l,m,n,a,b,c,d,e,o] /\
 Keep [s] W (((((W.setCell (aq s 8) a).setCell (aq s 9) b).setCell (aq s 10) c).setCell (aq s 11) d).setCell (aq s 12) e):=by
 have p:=((((h.set 8 a).set 9 b).set 10 c).set 11 d).set 12 e;simp only[PU] at p;exact⟨p,(((((Keep.refl [s] W).sc s 8).sc s 9).sc s 10).sc s 11).sc s 12⟩
structure KPla (w:World) (N pc sb s d g B base sg:Nat) (F:List Nat) (D:PDisk) (L:List (PPos×PRec)) (J:List PTold->World->Prop) (b:Value) (p:PPos) (W:World):Prop where
 run:∃ pre rest,J pre W/\pre.map (fun x=>(x.1,x.2.1))++placed p rest=L/\(b=.bool true/\Jp D B p rest\/b=.bool false/\rest=[])
 sc:∃ q,YM W s d g sg q
 pos:Blk W pc 49 #[ii p.seg,ii p.off,ii p.lsn,ii p.prev,ii p.mount]
 sb:Boxed W sb 274 (.pointer (some s))
 disk:DiskAt W base d F D
 geom:GeomAt W g B
 size:w.heap.size<=W.heap.size
 seg:p.seg=sg
def XAN (pc:Nat) (b:Value) (W:World):Nat:=
 match b with
 | .bool true=>match W.cell? (aq pc 1) with
   | some v=>25-(intOf v).toNat
   | none=>0
 | _=>0
theorem ZAX (n:Nat) {Rs:List PRec} (G:List TypeId)
 (t1:186∉G) (t2:290∉G) (t3:292∉G) (t4:4∉G) (t5:175∉G) (t6:375∉G) (t7:274∉G) (t8:49∉G) (M:Boxed w sb 274 (.pointer (some s))) (hs:YM w s d g sg q) (hg:GeomAt w g B) (h:DiskAt w base d F D) (b3:D.off=false) (hn:D.n=198+4*pgs B) (b4:sg<=7) (hf:∀ k,k<D.n->D.faults[k]? = some false)
 (an:Begins D B sg p0 b0 Rs) (a7:s∉F) (a8:s≠g) (a9:sb≠s) :
 QBn n prog 381 #[pq sb] VAr (KBU (placed p0 Rs)) [s] [375,49] G (YBS (placed p0 Rs) s d g sg) w:=by
 intro l aa W ab d6 ao d7 b5 h0;have ch:JC B sg<D.n:=by unfold JC;omega
 have ci:=h.lt;have d8:=hg.lt;have d9:=M.lt;replace hs:YM W s d g sg q:=Blk.kO hs ab;replace hg:=hg.kO ab;replace h:=h.kO ab;replace M:Boxed W sb 274 (.pointer (some s)):=JA M ab sq
 have br:∀ a A B,aa a A->Keep [s] A B->(∃ q,YM A s d g sg q)->aa a B:=fun a A B hj hk H=>ao a A B [s] hj hk (fun x i=>by
  simp at i;subst i;obtain⟨q,hq⟩:=H;exact⟨.inl sq,_,_,hq,sq⟩)
 have bs:∀ a A B,aa a A->kz A B->aa a B:=fun a A B hj hk=>ao a A B [] hj hk sq;have b6:=AQ (n:=n-1).2 (KAg (base:=base) (F:=F) (D:=D) hs hg h b3 hn b4 (hf _ ch) an a7 a8);have bt:=an.seg;have b7:=an.run;obtain⟨f,u,y,z,C⟩:=p0;simp only at bt b6;subst bt;obtain⟨p0,b8⟩:∃ p0:PPos,p0=⟨f,u,y,z,C⟩:=⟨_,rfl⟩;rw[<- b8] at b7 b5 ⊢;have cj:=ZB b5;have ck:=ZB ao;have b9:=ZB br;have bu:=ZB bs;have cl:=ZB b8;have cm:=ZB b7;have bv:=ZB hf;clear b5 ao br bs b8 b7 an hf;refine Cd func381 rfl trivial ?_ rfl;simp only[ntmps381,PL,Nat.reduceAdd,Nat.reduceSub];have N:=M.cell
 gi_wp2_with (
  refine⟨trivial,fun h=>by simp[Fence.wide] at h,?_⟩;refine b6.mono ?_;clear b6 N;rintro e w1 ⟨rfl,ap,ac⟩;have cn:=(JA M ac (uq a9)).cell;have co:=(JA M (ac.alloc (.cells #[ii f,ii u,ii y,ii z,ii C] 49)) (uq a9)).cell;have o:YM (w1.alloc (.cells #[ii f,ii u,ii y,ii z,ii C] 49)) s d g f q:=Blk.kO ap (kq.alloc _);have a0:=id o;unfold YM at o;obtain⟨ar,au,c2,av,c4,c5,c6,c7,c8,c9,ad,ae,af,aw⟩:=cells14 o;have f8:=o.frozen 8;have f9:=o.frozen 9;have ba:=o.frozen 10;have bb:=o.frozen 11;have bc:=o.frozen 12;have bd:=o.lt)
 obtain⟨ag,r⟩:=ZAr o (.int .i64 (f:Nat)) (.int .i64 (u:Nat)) (.int .i64 (y:Nat)) (.int .i64 (z:Nat)) (.int .i64 (C:Nat));have bw:YM _ s d g f ⟨f,u,y,z,C⟩:=ag;have O:=ac.alloc (.cells #[ii f,ii u,ii y,ii z,ii C] 49);have ah:=O.trans r (fun x i=>.inl i);have a1:=(Blk.new w1 49 #[ii f,ii u,ii y,ii z,ii C]).keep r (by have:=ap.lt;simp;omega);have ai:=ZA b9 _ _ _ h0 ah ⟨q,hs⟩;have aj:=JA M ah (uq a9);have ak:=h.keep ah (fun x i T=>by simp at T;subst T;exact a7 i);have al:=hg.keep ah (by simpa using fun e=>a8 e.symm);have cp:w.heap.size<=w1.heap.size:=AB ab.size ac.size;have da:s<w1.heap.size:=ap.lt;clear a0 o ar au c2 av c4 c5 c6 c7 c8 c9 ad ae af aw f8 f9 ba bb bc bd cn co O r ag M h hg hs h0 ah ac ap;generalize (((((((w1.alloc (.cells #[ii f,ii u,ii y,ii z,ii C] 49)).setCell (aq s 8) (.int .i64 f)).setCell (aq s 9) (.int .i64 u)).setCell (aq s 10) (.int .i64 y)).setCell (aq s 11) (.int .i64 z)).setCell (aq s 12) (.int .i64 C)))=w2 at *;generalize w1.heap.size=pc at *
 gi_loopw [4] (fun b wr=>∃ p:PPos,KPla w w.heap.size pc sb s d g B base f F D (placed p0 Rs) aa b p wr)
  (fun b wr=>XAN pc b wr)
 case atStart=>
  have:=ZA cl;exact⟨⟨f,u,y,z,C⟩,⟨[],Rs,ai,by rw[this];rfl,by have h9:=ZA cm;rw[this] at h9;rcases h9 with⟨J,K⟩ | ⟨J,K⟩;exact .inl ⟨by rw[J],K⟩;exact .inr ⟨by rw[J],K⟩⟩,⟨_,bw⟩,a1,aj,ak,al,by have:=a1.lt;omega,rfl⟩
 clear ai bw a1 aj ak al;obtain⟨⟨cq,U,bf,bg,bh⟩,j⟩:=hrel;obtain rfl:f=cq:=j.seg.symm;obtain⟨bi,cr,bj,a2,cs⟩:=j.run;obtain⟨q1,H⟩:=j.sc;have ct:=j.sb.cell;obtain⟨x0,x1,x2,x3,x4⟩:=cells5 j.pos;simp only at x0 x1 x2 x3 x4;rcases cs with⟨rfl,N⟩ | ⟨rfl,rfl⟩
 . cases cr with
   | nil=>
     have a3:=AQ (n:=n-1).2 (VAj (w:=wr) (s:=s) (d:=d) (g:=g) (sg:=f) (q:=q1) ⟨f,U,bf,bg,bh⟩ H j.geom j.disk b3 hn (ZA bv) b4 N a7 a8);have a4:=ZB a2;have t:=ZB j;clear N a2 j;gi_wp2_with (refine⟨trivial,fun h=>by simp[Fence.wide] at h,?_⟩;refine a3.mono ?_;clear a3;rintro e w3 ⟨rfl,a0,ax⟩);refine Ac (results_none rfl _ _ _) rfl ?_;refine⟨⟨_,rfl⟩,bi,⟨by have:=ZA a4;simpa [placed] using this,_,Blk.kO a0 ((kq.alloc _).alloc _)⟩,?_⟩
     exact ZA bu _ _ _ (ZA b9 _ _ _ bj ax ⟨_,H⟩) ((kq.alloc _).alloc _)
   | cons R Rs'=>
     obtain⟨ay,N⟩:=N;have a3:=AQ (n:=n-1).2 (QAn (w:=wr) (s:=s) (d:=d) (g:=g) (sg:=f) (q:=q1) H j.geom j.disk b3 hn (ZA bv) b4 ay a7 a8);have a4:=ZB a2;have t:=ZB j;have cu:=ZB N;have bk:=ZB ay;have cv:U+(1+R.blocks.length)<=24:=ay.room;obtain⟨P,bl⟩:=ex (U+(1+R.blocks.length));obtain⟨Q,bm⟩:=ex (R.lsn+1);obtain⟨S,bn⟩:=ex R.sum;simp only[<- bl,<- bm,<- bn] at a3;have bx:=ZB bl;have cw:=ZB bm;have cx:=ZB bn;clear N a2 j ay bl bm bn cv
     gi_wp2_with (
      refine⟨trivial,fun h=>by simp[Fence.wide] at h,?_⟩;refine a3.mono ?_;clear a3;rintro e w3 ⟨I,cy,rfl,az,a0,ax⟩;obtain⟨gi,ic,rfl,_⟩:=YD az.its (ZA bk).may.some;obtain⟨V,X,Y,rfl⟩:∃ V X Y,cy=.slice V X Y:=by obtain⟨ls,-,K,-⟩:=az.bls;obtain⟨A,c,h,_⟩:=XB K;exact⟨A,_,c,h⟩
      have O:kz w3 ((w3.alloc (.cells #[ii R.mount,ii R.lsn,ii R.prev,.slice (some gi) R.items.length ic,.slice V X Y] 280)).alloc (.cells #[ii f,ii P,ii Q,ii S,ii R.mount] 49)):=(kq.alloc _).alloc _;have ag:=Blk.kO a0 O;have m:=id ag;unfold YM at m;obtain⟨ar,au,c2,av,c4,c5,c6,c7,c8,c9,ad,ae,af,aw⟩:=cells14 m;have f8:=m.frozen 8;have f9:=m.frozen 9;have ba:=m.frozen 10;have bb:=m.frozen 11;have bc:=m.frozen 12;have bd:=m.lt;have bz:=JA (JA (ZA t).sb ax (uq a9)) O sq;have cz:=bz.cell)
     obtain⟨am,b1⟩:=ZAr m (.int .i64 (f:Nat)) (.int .i64 (P:Nat)) (.int .i64 (Q:Nat)) (.int .i64 (S:Nat)) (.int .i64 (R.mount:Nat));have ca:YM _ s d g f ⟨f,P,Q,S,R.mount⟩:=am;have cb:=(az.kO O).keepB m (by decide) (by decide) (by decide) b1;have b2:=(Blk.new w3 280 #[ii R.mount,ii R.lsn,ii R.prev,.slice (some gi) R.items.length ic,.slice V X Y]).kO ((Keep.refl [] _).alloc (.cells #[ii f,ii P,ii Q,ii S,ii R.mount] 49));have db:=a0.lt;replace b2:=b2.keep b1 (by simp;omega);have dc:=(ZA t).pos.lt;have r:Keep [s] wr _:=(ax.tO O).trans b1 (fun x i=>.inl i);have dd:=H.lt;have cc:pc≠s:=fun e=>by subst e;have J:=H.symm.trans (ZA t).pos;simp at J
     have a1:=(ZA t).pos.keep r (uq cc);have aj:=JA (ZA t).sb r (uq a9);have ak:=(ZA t).disk.keep r (fun x i T=>by simp at T;subst T;exact a7 i);have al:=(ZA t).geom.keep r (by simpa using fun e=>a8 e.symm);have ai:=ZA b9 _ _ _ bj r ⟨_,H⟩;have de:w.heap.size<=wr.heap.size:=(ZA t).size;have df:=r.size;clear ar au c2 av c4 c5 c6 c7 c8 c9 ad ae af aw f8 f9 ba bb bc bd cz bz m ag O b1 am r az;generalize ((((((((w3.alloc (.cells #[ii R.mount,ii R.lsn,ii R.prev,.slice (some gi) R.items.length ic,.slice V X Y] 280)).alloc (.cells #[ii f,ii P,ii Q,ii S,ii R.mount] 49)).setCell (aq s 8) (.int .i64 f)).setCell (aq s 9) (.int .i64 P)).setCell (aq s 10) (.int .i64 Q)).setCell (aq s 11) (.int .i64 S)).setCell (aq s 12) (.int .i64 R.mount)))=w4 at *;generalize w3.heap.size=rb at *;have bo:=AQ (n:=n-1).2 (JAc R.mount R.lsn R.prev gi R.items.length ic (.slice V X Y) R.items (Rd.of_ownN cb.its) rfl (ZA bk).may.few rfl);obtain⟨lb,bp⟩:=ex (YS R.items);rw[<- bp] at bo;have d0:=ZB bp;clear bp
     gi_wp2_with (
      refine⟨trivial,fun h=>by simp[Fence.wide] at h,?_⟩;refine bo.mono ?_;clear bo;rintro e w5 ⟨⟨v,rfl⟩,E⟩;clear x0 x1 x2 x3 x4 ct;have bq:=a1.kO E;have cd:=b2.kO E;obtain⟨x0,x1,x2,x3,x4⟩:=cells5 bq;obtain⟨r0,r1,r2,r3,r4⟩:=VD cd
      obtain⟨fn,dg,dh,di,hy,ce⟩:=ZA cj bi (⟨f,U,bf,bg,bh⟩,R,.slice (some gi) R.items.length ic,.slice V X Y) w5 (ZA bu _ _ _ ai E) ⟨by
       have:=ZA a4;rw[<- this,Bm sq,CJ,C6];rfl,(cb.kO E).base (AP _)⟩
      dsimp only[VAr] at hy)
     refine⟨fun h=>by simp[Fence.wide] at h,ce.mono ?_⟩;rintro e w6 ⟨rfl,d1,a5⟩;have m:Blk w5 s _ _:=Blk.kO ca E;have am:=a5.blk m t6;have L:=a5.blk bq t8;have cf:=a5.box (JA aj E sq) t7;have d2:=a5.disk (ak.kO E) t1 t2 t3 t4;have d3:=a5.geom (al.kO E) t5;have dj:=a5.size;have dk:=E.size;clear x0 x1 x2 x3 x4 r0 r1 r2 r3 r4 hy ce cd b2 a1 aj ak al ai ca m bq E;obtain⟨x0,x1,x2,x3,x4⟩:=cells5 L;obtain⟨ar,au,c2,av,c4,c5,c6,c7,c8,c9,ad,ae,af,aw⟩:=cells14 am;simp only at c8 c9 ad ae af;have f0:=L.frozen 0;have f1:=L.frozen 1;have f2:=L.frozen 2;have f3:=L.frozen 3;have f4:=L.frozen 4;have dl:=L.lt;have dm:=cf.cell
     gi_wp2
     obtain⟨cg,a6⟩:=YAk L (.int .i64 (f:Nat)) (.int .i64 (P:Nat)) (.int .i64 (Q:Nat)) (.int .i64 (S:Nat)) (.int .i64 (R.mount:Nat));go_roundw
     case rel=>
      have d4:=ZA cu;refine⟨R.behind ⟨f,U,bf,bg,bh⟩,⟨_,Rs',ZA ck _ _ _ [pc] d1 a6 (fun x i=>by simp at i;subst i;exact⟨.inr cp,_,_,L,sq⟩),by rw[<- ZA a4,Bf];simp[placed],?_⟩,⟨⟨f,P,Q,S,R.mount⟩,Blk.keep am a6 (by simpa using fun e=>cc e.symm)⟩,?_,JA cf a6 ?_,d2.keep a6 ?_,d3.keep a6 ?_,by have:=a6.size;omega,rfl⟩
      . rw[ZA d0]
        rcases d4 with⟨J,K⟩ | ⟨J,K⟩
        . rw[J];exact .inr ⟨rfl,K⟩
        rw[J];exact .inl ⟨rfl,K⟩
      . have e1:=ZA bx
        have e2:=ZA cw;have e3:=ZA cx;subst e1 e2 e3;exact cg
      . simp only[Ag];omega
      . intro x i T
        have:=ci x i;simp only[Ag] at T;omega
      simp only[Ag];omega
     case measure=>
      have y1:=(cells5 cg).2.1;have d5:=(cells5 (ZA t).pos).2.1;have e1:=ZA bx;have e2:U+(1+R.blocks.length)<=24:=(ZA bk).room
      have m1:XAN pc (.bool true) wr=25-U:=by
       unfold XAN;rw[d5];simp[intOf]
      rw[m1];cases lb
      . unfold XAN
        rw[y1];simp only[Bool.not_false,intOf,Ba];omega
      simp only[XAN,Bool.not_true]
      omega
 have a4:=ZB a2
 have t:=ZB j;clear a2 j
 gi_wp2
 go_end0
 exact⟨⟨_,rfl⟩,bi,⟨by have:=ZA a4;simpa [placed] using this,_,H⟩,bj⟩
end
section
open Go.RowKit Go.Shelf
attribute [local go_sem] AW
def KAr (x:PTold):Array Value:=#[ii x.1.off,.agg #[ii x.2.1.mount,ii x.2.1.lsn,ii x.2.1.prev,x.2.2.1,x.2.2.2]]
theorem XBN (n:Nat) (v:Value) (w:World) (a:v.oneCell'=true) :
 CallsIn Fence.wide n prog 211 #[v] w fun e w'=>e=.returned (.func (.func 325) #[] #[pq w.heap.size])/\w'=w.alloc (.cells #[v] 274):=by
 refine(AQ (n:=n)).2 ?_;go_enter func211,ntmps211
 go_wp2
 go_ret;exact⟨rfl,rfl⟩
structure KRcs (b2 l N:Nat) (J:List PTold->World->Prop) (pre:List PTold) (W:World):Prop where
 out:J pre W
 box:Boxed W b2 376 (.func (.yield l) #[] #[])
 size:N<=W.heap.size
theorem YAM (n:Nat) {Rs:List PRec} (a:List TypeId)
 (t1:186∉a) (t2:290∉a) (t3:292∉a) (t4:4∉a) (t5:175∉a) (t6:375∉a) (t7:274∉a) (t8:49∉a) (t9:376∉a)
 (w:World) (hb:Boxed w sb 274 (.pointer (some s))) (J:YM w s d g sg q) (hg:GeomAt w g B) (h:DiskAt w base d F D) (ak:D.off=false) (hn:D.n=198+4*pgs B) (al:sg<=7) (hf:∀ k,k<D.n->D.faults[k]? = some false)
 (am:Begins D B sg p0 b0 Rs) (an:s∉F) (ao:s≠g) :
 QBn n prog 325 #[pq sb] KAr (KBU (placed p0 Rs)) [s] [375,49] a (YBS (placed p0 Rs) s d g sg) w:=by
 intro l a7 W K az a8 a9 aa h0;have b1:=J.lt;replace J:YM W s d g sg q:=Blk.kO J K;replace hg:=hg.kO K;replace h:=h.kO K;replace hb:Boxed W sb 274 (.pointer (some s)):=JA hb K sq;have hc:=(JA hb ((Keep.refl [] W).alloc (.cells #[.func (.yield l) #[] #[]] 376)) sq).cell;have ap:=ZB aa;have ab:=ZB a8;have ac:=ZB a9;clear aa a8 a9;refine callsIn_of_wp_marks func325 rfl trivial ?_ rfl;simp only[ntmps325,PL,Nat.reduceAdd,Nat.reduceSub]
 gi_wp2
 refine⟨trivial,fun h=>by simp[Fence.wide] at h,?_⟩;refine(QAu _ _ _ rfl).mono ?_;rintro e w' ⟨rfl,rfl⟩
 gi_wp2
 obtain⟨w1,S⟩:=ex (W.alloc (.cells #[.func (.yield l) #[] #[]] 376));obtain⟨r,T⟩:=ex (w1.alloc (.cells #[pq s] 274));rw[<- S,<- T];have s1:w1.heap.size=W.heap.size+1:=by rw[S,AM]
 have s2:r.heap.size=W.heap.size+2:=by rw[T,AM,s1]
 have k1:kz W w1:=by rw[S];exact kq.alloc _
 have k2:kz w1 r:=by rw[T];exact kq.alloc _
 have U:kz W r:=k1.tO k2;have X:Boxed r W.heap.size 376 (.func (.yield l) #[] #[]):=JA (by rw[S];exact Boxed.new W _ _) k2 sq;have u:Boxed r (W.heap.size+1) 274 (.pointer (some s)):=by rw[T,<- s1];exact Boxed.new w1 _ _
 have b2:=K.size;have b3:=J.lt;have Y:KRcs W.heap.size l r.heap.size a7 [] r:=⟨ZA ab _ _ _ [] h0 U sq,X,AG _⟩;have a0:=ZAX (n-1) a t1 t2 t3 t4 t5 t6 t7 t8 u (Blk.kO J U) (hg.kO U) (h.kO U) ak hn al hf am an ao Z
 refine Jz (n:=n) (gf:=381) (lb:=#[pq (W.heap.size+1)]) rfl (enters_of func381 (by kernel_rfl) rfl)
  (fun xs V k o j v hl b f=>⟨v.1,v.2.choose,XH j v.2.choose_spec b f⟩) a0 (fun _=>rfl) (fun x hx=>by simp at hx;omega)
  (KRcs W.heap.size l r.heap.size a7) ?hI ?hIb (fun a1 x A B m M=>⟨m.1,m.2.kO M⟩) ?hFb Y
  (fun x N V=>∃ O P,N={ tmps:=#[.func (.yield l) #[] #[],pq sb,pq W.heap.size,pq O,pq P,pq s,.func (.func 381) #[] #[pq (W.heap.size+1)],.agg #[.int .i64 x.1.seg,.int .i64 x.1.off,.int .i64 x.1.lsn,.int .i64 x.1.prev,.int .i64 x.1.mount],.agg #[.int .i64 x.2.1.mount,.int .i64 x.2.1.lsn,.int .i64 x.2.1.prev,x.2.2.1,x.2.2.2],undef,undef,undef,undef,undef,undef],defers:=[] }/\Blk V O 49 #[.int .i64 x.1.seg,.int .i64 x.1.off,.int .i64 x.1.lsn,.int .i64 x.1.prev,.int .i64 x.1.mount]/\Blk V P 280 #[.int .i64 x.2.1.mount,.int .i64 x.2.1.lsn,.int .i64 x.2.1.prev,x.2.2.1,x.2.2.2])
  ?hAb ?assign ?body ?done
 case hI=>
  intro xs A V L a2 M ad
  have ar:∀ x∈L,XBm [s] [375,49] w.heap.size A x:=fun x hx=>by
   obtain⟨y,i⟩:=ad x hx;exact⟨y.imp id (fun h=>Z),i⟩
  exact⟨ZA ab _ _ _ L a2.out M ar,JA a2.box M (fun hm=>by
   obtain⟨-,cs,t,e1,e2⟩:=ad _ hm;have e3:=a2.box.symm.trans e1;simp at e3;obtain⟨-,rfl⟩:=e3;simp at e2),AB a2.size M.size⟩
 case hIb=>
  intro xs V k o j z hl b f;exact⟨ZA ac _ _ _ _ _ z.out Z b f,ZC j z.box b f,by rw[World.putObj_size];exact z.size⟩
 case hFb=>
  intro a1 x V k o j z hl b f;obtain⟨y,hi,ls,i,h3,h4⟩:=z;exact⟨y,XM j hi b f,ls,i,XM j h3 b f,fun q hq=>XM j (h4 q hq) b f⟩
 case hAb=>
  intro x N V k o j z hl b f;obtain⟨O,P,y,i,h3⟩:=z;exact⟨O,P,y,XH j i b f,XH j h3 b f⟩
 case assign=>
  rintro au a1 ⟨p,R,I,Q⟩ V b4 C m ae;have E:RecHold V 0 I Q R:=m.2;obtain⟨af,ic,rfl,_⟩:=XB E.its;obtain⟨G,H,ag,rfl⟩:∃ G H u,Q=.slice G H u:=by obtain⟨ls,-,i,-⟩:=E.bls;obtain⟨A,c,h,_⟩:=XB i;exact⟨A,_,c,h⟩
  have ah:=fun N av y i=>ae N av y i;have aw:=ZB ah;clear ae ah a0 Y X u m E;dsimp only[VAr]
  gi_wp2
  have ka:kz V (V.alloc (.cells #[ii p.seg,ii p.off,ii p.lsn,ii p.prev,ii p.mount] 49)):=kq.alloc _;refine ZA aw _ _ (ka.alloc _) ⟨_,_,rfl,(Blk.new V _ _).kO ((Keep.refl [] _).alloc _),Blk.new1 V _ _ _⟩
 case body=>
  rintro au a1 ⟨p,R,I,Q⟩ N V C m ⟨O,P,rfl,a3,a4⟩;have E:RecHold V 0 I Q R:=m.2;obtain⟨af,ic,rfl,_⟩:=XB E.its;obtain⟨G,H,ag,rfl⟩:∃ G H u,Q=.slice G H u:=by obtain⟨ls,-,i,-⟩:=E.bls;obtain⟨A,c,h,_⟩:=XB i;exact⟨A,_,c,h⟩
  dsimp only at a3 a4 ⊢;obtain⟨x0,x1,x2,x3,x4⟩:=cells5 a3;obtain⟨r0,r1,r2,r3,r4⟩:=VD a4;have ax:=C.box.cell;obtain⟨fn,b5,assign,body,hy,ai⟩:=ZA ap a1 (p,R,.slice af R.items.length ic,.slice G H ag) V C.out m;dsimp only[KAr] at hy;have aj:=ZB C;clear a0 Y X u m E C a3 a4
  gi_wp2
  refine⟨fun h=>by simp[Fence.wide] at h,(JW ai).mono ?_⟩;rintro e b6 ⟨rfl,ay,a5⟩;clear hy ai x0 x1 x2 x3 x4 r0 r1 r2 r3 r4 ax
  gi_wp2
  exact⟨a5,ay,a5.box (ZA aj).box t9,AB (ZA aj).size a5.size⟩
 case done=>
  intro D' xs V b7 v C a6;clear a0 Y X u
  gi_wp2
  refine⟨sq,.inl ⟨_,_,rfl,run_takeDeferred a6,?_⟩⟩;refine⟨.tuple #[],by simp[results,results325,go_sem],⟨_,rfl⟩,xs,⟨v.1,v.2.choose,XH _ v.2.choose_spec a6 rfl⟩,ZA ac _ _ _ _ _ C.out Z a6 rfl⟩
end
section
open Go.RowKit Go.Shelf
attribute [local go_sem] AW
def QS (I:PImage) (b:Nat) (at':Nat):Bool:=decide (I.bl.getD b 0=(at':Int)) || decide (YV I b=(at':Int))
def blc (x:Nat×Nat):List Value:=[.int .i64 x.1,.int .i64 x.2]
def KQ (I:PImage) (a:Nat):List PItem->List (Nat×Nat)
 | []=>[]
 | i :: is=>if i.loaded then (if QS I i.b (a+1) then [(i.b,a+1)] else [])++KQ I (a+1) is else KQ I a is
theorem VAU (I:PImage) (a:Nat) (is:List PItem) (i:PItem) :
 KQ I a (is++[i])=KQ I a is++(if i.loaded then (if QS I i.b (a+ZG is+1) then [(i.b,a+ZG is+1)] else []) else []):=by
 induction is generalizing a with
 | nil=>cases hi:i.loaded <;> cases hc:QS I i.b (a+1) <;> simp[KQ,ZG,hi,hc]
 | cons j is ih=>
   have b:ZG (j :: is)=ZG is+if j.loaded then 1 else 0:=by
    unfold ZG;cases h:j.loaded <;> simp[h]
   cases hj:j.loaded
   . simp only[As,KQ,hj,Ap,CD] at b ⊢
     rw[ih,b];rfl
   simp only[As,KQ,hj,Bo] at b ⊢
   rw[ih,b,BN,show a+1+ZG is=a+(ZG is+1) from Z]
theorem KAc (I:PImage) (a:Nat) (is:List PItem):(KQ I a is).length<=is.length:=by
 induction is generalizing a with
 | nil=>simp[KQ]
 | cons j is ih=>
   simp only[KQ];cases j.loaded
   . simp only[Ap,CD,Ao];have:=ih a;omega
   simp only[Bo,AE,Ao]
   have:=ih (a+1)
   split <;> simp <;> omega
def JO (I:PImage) (B:Nat):List (PPos×PRec)->List (Nat×Nat)
 | []=>[]
 | x :: L=>KQ I (JC B x.1.seg+x.1.off) x.2.items++JO I B L
theorem VAO (I:PImage) (B:Nat) (L:List (PPos×PRec)) (x:PPos×PRec):JO I B (L++[x])=JO I B L++KQ I (JC B x.1.seg+x.1.off) x.2.items:=by
 induction L with
 | nil=>simp[JO]
 | cons y L ih=>simp only[As,JO,ih,BN]
theorem elemTold:ElemN prog 159 164 (.agg #[zz,zz]) 2 16:=ElemN.of underlying159 (by kernel_rfl) rfl Z
theorem JAB {m:Nat} {I:PImage} (h:ImageAt w base m F I) (b a:Nat) (c:b<I.bl.length) :
 cq 213 #[pq m,b,a] w (.bool (QS I b a)):=by
 have d:b<I.ol.length:=by rw[<- h.ok.1];exact c
 have f:=Kz h b c;have g:=Vt h b c d;have i:QS I b a=(decide (I.bl[b]=(a:Int)) || decide (YV I b=(a:Int))):=by unfold QS;rw[Ze c]
 rw[i];clear i h d;generalize I.bl[b]=x at *;generalize YV I b=y at *;go_enter func213,ntmps213
 go_wp2_with (first
  | (refine f.mono ?_;clear f;rintro e w' ⟨rfl,rfl⟩)
  | (refine g.mono ?_;clear g;rintro e w' ⟨rfl,rfl⟩))
 all_goals
  go_ret;exact⟨JF (by rw[Bh];simp[*]),rfl⟩
end
def JAA (a:Nat):List PItem->List (Nat×Nat)
 | []=>[]
 | i :: is=>if i.loaded then (i.b,a+1) :: JAA (a+1) is else JAA a is
def VS (B:Nat):List (PPos×PRec)->List (Nat×Nat)
 | []=>[]
 | x :: L=>JAA (JC B x.1.seg+x.1.off) x.2.items++VS B L
theorem VAG (I:PImage) (a:Nat) (is:List PItem):KQ I a is=(JAA a is).filter (fun x=>QS I x.1 x.2):=by
 induction is generalizing a with
 | nil=>rfl
 | cons i is ih=>
   unfold KQ JAA;cases i.loaded
   . simp[ih]
   simp only[Bo,Dj,ih]
   cases QS I i.b (a+1) <;> simp
theorem VZ (I:PImage) (B:Nat) (L:List (PPos×PRec)):JO I B L=(VS B L).filter (fun x=>QS I x.1 x.2):=by
 induction L with
 | nil=>rfl
 | cons x L ih=>simp only[JO,VS,DV,ih,VAG]
theorem Xq (B:Nat) (L M:List (PPos×PRec)):VS B (L++M)=VS B L++VS B M:=by
 induction L with
 | nil=>rfl
 | cons x L ih=>simp only[As,VS,ih,BN]
theorem KAP (a:Nat) (is:List PItem) (i:PItem):JAA a (is++[i])=JAA a is++(if i.loaded then [(i.b,a+ZG is+1)] else []):=by
 induction is generalizing a with
 | nil=>cases h:i.loaded <;> simp[JAA,ZG,h]
 | cons j is ih=>
   have b:ZG (j :: is)=ZG is+if j.loaded then 1 else 0:=by
    unfold ZG;cases h:j.loaded <;> simp[h]
   unfold JAA;simp only[As];cases hj:j.loaded
   . simp only[hj,Ap,CD] at b ⊢
     rw[ih,b];rfl
   simp only[hj,Bo] at b ⊢
   rw[ih,b,As,show a+1+ZG is=a+(ZG is+1) from Z]
theorem Zb (a:Nat) (is:List PItem):∀ x∈JAA a is,a+1<=x.2/\x.2<a+1+ZG is:=by
 induction is generalizing a with
 | nil=>simp[JAA]
 | cons j is ih=>
   have c:ZG (j :: is)=ZG is+if j.loaded then 1 else 0:=by
    unfold ZG;cases h:j.loaded <;> simp[h]
   unfold JAA;intro x b;cases hj:j.loaded
   . simp only[hj,Ap,CD] at c b
     have:=ih _ x b;omega
   simp only[hj,Bo,AL] at c b
   rcases b with rfl | b
   . simp only;omega
   have:=ih _ x b
   omega
def Chn (D:PDisk) (B:Nat):PPos->List PRec->PPos->Prop
 | p,[],q=>p=q
 | p,R :: Rs,q=>LiesR D B p R/\YS R.items=false/\Chn D B (R.behind p) Rs q
theorem Chn.ends {Rs:List PRec} (h:Chn D B p Rs q):p.seg=q.seg/\p.off+Rs.length<=q.off/\p.mount<=q.mount:=by
 induction Rs generalizing p with
 | nil=>obtain rfl:p=q:=h;exact⟨rfl,sq,AG _⟩
 | cons R Rs ih=>
   obtain⟨a,f,b⟩:=h;obtain⟨c,d,e⟩:=ih b;have:=a.mount;exact⟨c,by simp only[PRec.behind,Ao] at d ⊢;omega,by simp only[PRec.behind] at e;omega⟩
theorem Chn.snoc {Rs:List PRec} {R:PRec} (h:Chn D B p Rs q) (a:LiesR D B q R) (b:YS R.items=false):Chn D B p (Rs++[R]) (R.behind q):=by
 induction Rs generalizing p with
 | nil=>obtain rfl:p=q:=h;exact⟨a,b,rfl⟩
 | cons S Rs ih=>obtain⟨c,d,e⟩:=h;exact⟨c,d,ih e⟩
theorem LiesR.keepD {R:PRec} (h:LiesR D B p R) (a:∀ x,JC B p.seg+p.off<=x->x<JC B p.seg+p.off+(1+R.blocks.length)->seg 64 D'.now x=seg 64 D.now x):LiesR D' B p R:=
 ⟨h.may,h.lsn,h.prev,h.mount,h.room,fun k b=>by rw[a _ Z Z];exact h.bytes k b⟩
theorem Chn.keepD {Rs:List PRec} (h:Chn D B p Rs q) (c:∀ x,JC B p.seg+p.off<=x->x<JC B p.seg+q.off->seg 64 D'.now x=seg 64 D.now x):Chn D' B p Rs q:=by
 induction Rs generalizing p with
 | nil=>exact h
 | cons R Rs ih=>
   obtain⟨e,f,d⟩:=h;have g:=d.ends;simp only[PRec.behind] at g;exact⟨e.keepD (fun x a b=>c x a Z),f,ih d (fun x a b=>c x (by simp only[PRec.behind] at a;omega) (by simp only[PRec.behind] at b;omega))⟩
theorem Chn.chained {Rs:List PRec} (h:Chn D B p Rs q) (a:q.off=24\/q.off<24/\Stale D (JC B q.seg+q.off) (24-q.off) q.lsn):Jp D B p Rs:=by
 induction Rs generalizing p with
 | nil=>obtain rfl:p=q:=h;exact a
 | cons R Rs ih=>obtain⟨b,c,d⟩:=h;exact⟨b,.inr ⟨c,ih d⟩⟩
theorem Chn.last {Rs:List PRec} {R:PRec} (h:Chn D B p Rs q) (a:LiesR D B q R) (b:YS R.items=true):Jp D B p (Rs++[R]):=by
 induction Rs generalizing p with
 | nil=>obtain rfl:p=q:=h;exact⟨a,.inl ⟨b,rfl⟩⟩
 | cons S Rs ih=>obtain⟨c,d,e⟩:=h;exact⟨c,.inr ⟨d,ih e⟩⟩
theorem Yc {Rs:List PRec} (h:Chn D B p Rs q) (R:PRec):placed p (Rs++[R])=placed p Rs++[(q,R)]:=by
 induction Rs generalizing p with
 | nil=>obtain rfl:p=q:=h;rfl
 | cons S Rs ih=>obtain⟨b,c,a⟩:=h;simp only[As,placed,ih a]
theorem Chn.place {Rs:List PRec} (h:Chn D B p Rs q) (x:PPos×PRec) (f:x∈placed p Rs):x.1.seg=q.seg/\p.off<=x.1.off/\LiesR D B x.1 x.2/\x.1.off+(1+x.2.blocks.length)<=q.off/\x.2∈Rs:=by
 induction Rs generalizing p with
 | nil=>simp[placed] at f
 | cons S Rs ih=>
   obtain⟨j,k,g⟩:=h;simp only[placed,AL] at f;have i:=g.ends;simp only[PRec.behind] at i;rcases f with rfl | f
   . exact⟨i.1,AG _,j,by simp only;omega,sq⟩
   obtain⟨a,b,c,d,e⟩:=ih g f
   simp only[PRec.behind] at b;exact⟨a,Z,c,d,by simp[e]⟩
structure HeadOn (D:PDisk) (B s:Nat) (h:PPos):Prop where
 seg:h.seg=s
 off:h.off=1
 mount:1<=h.mount/\h.mount<=2147483647
 lsn:1<=h.lsn/\h.lsn<=2147483647
 prev:h.prev<=4294967295
 bytes:Go.Proofs.YtfedaknhecbehaaGreat.seg 64 D.now (JC B s)=Js s h.mount h.lsn h.prev
theorem HeadOn.keepD {h:PPos} (a:HeadOn D B s h) (b:Go.Proofs.YtfedaknhecbehaaGreat.seg 64 D'.now (JC B s)=Go.Proofs.YtfedaknhecbehaaGreat.seg 64 D.now (JC B s)):HeadOn D' B s h:=
 ⟨a.seg,a.off,a.mount,a.lsn,a.prev,b.trans a.bytes⟩
def XBj (D:PDisk) (B:Nat) (h:PPos) (l:List PRec) (L:Nat):Prop:=∃ Rs x q,l=Rs++[x]/\Chn D B h Rs q/\LiesR D B q x/\YS x.items=true/\∀ k,q.off+(1+x.blocks.length)<=k->k<24->Stale D (JC B q.seg+k) (24-k) L
structure LogOn (B:Nat) (D:PDisk) (st:Nat->Nat) (W:PW) (H:Nat->PPos) (R:Nat->List PRec):Prop where
 free:∀ s,s<8->st s=0->∀ k,k<24->Stale D (JC B s+k) (24-k) W.pos.lsn
 here:st W.pos.seg≠0
 pos:W.pos.Ok
 off0:W.pos.off=0->R W.pos.seg=[]/\seg 64 D.now (JC B W.pos.seg)=List.replicate 64 0
 head:1<=W.pos.off->HeadOn D B W.pos.seg (H W.pos.seg)/\Chn D B (H W.pos.seg) (R W.pos.seg) W.pos
 rest:∀ k,W.pos.off<=k->k<24->Stale D (JC B W.pos.seg+k) (24-k) W.pos.lsn
 full:∀ s,s<8->st s≠0->s≠W.pos.seg->HeadOn D B s (H s)/\XBj D B (H s) (R s) W.pos.lsn
 own:∀ s,s<8->∀ x∈R s,∀ i∈x.items,i.loaded=true->i.b<B
 wait:∀ i∈W.items,i.k≠7/\(i.loaded=true->i.b<B)
 low:∀ s,s<8->∀ x∈R s,x.lsn<W.pos.lsn
 blk:∀ s,s<8->∀ x∈R s,∀ b∈x.blocks,KT b
 wblk:∀ b∈W.blocks,KT b
def RefTold (B:Nat) (st:Nat->Nat) (W:PW) (H:Nat->PPos) (R:Nat->List PRec) (b a:Nat):Prop:=
 (b,a)∈JAA (JC B W.pos.seg+YC W.pos.off 0-1) W.items\/∃ s,s<8/\st s≠0/\(b,a)∈VS B (placed (H s) (R s))
theorem LogOn.congr {st:Nat->Nat} {R:Nat->List PRec} (h:LogOn B D st W H R) (i:∀ x,6+4*pgs B<=x->seg 64 D'.now x=seg 64 D.now x):LogOn B D' st W H R:=by
 have d:∀ s x,JC B s<=x->seg 64 D'.now x=seg 64 D.now x:=fun s x j=>i x (by unfold JC at j;omega);refine⟨fun s a b k c=>(h.free s a b k c).keepD Z (AG _) (fun y f _=>d s y Z),h.here,h.pos,fun a=>⟨(h.off0 a).1,by rw[d W.pos.seg _ (AG _)];exact(h.off0 a).2⟩,fun a=>?_,fun k a b=>(h.rest k a b).keepD Z (AG _) (fun y f _=>d W.pos.seg y Z),fun s a b c=>?_,h.own,h.wait,h.low,h.blk,h.wblk⟩
 . obtain⟨f,g⟩:=h.head a
   have e:=f.seg;exact⟨f.keepD (d _ _ (AG _)),g.keepD (fun x a b=>d (H W.pos.seg).seg x Z)⟩
 obtain⟨f,Rs,x,q,g,l,m,n,o⟩:=h.full s a b c
 exact⟨f.keepD (d _ _ (AG _)),Rs,x,q,g,l.keepD (fun x a b=>d (H s).seg x Z),m.keepD (fun x a b=>d q.seg x Z),n,fun k p r=>(o k p r).keepD Z (AG _) (fun y f _=>d q.seg y Z)⟩
theorem LogOn.emitted {st:Nat->Nat} {R:Nat->List PRec} (h:LogOn B D st W H R) (a5:Emitted B D us W D' us' W') (t:W.Ok)
 (E:D.now.length=D.n*64) (J:D.n=198+4*pgs B) (aj:W.pos.off<=23) (ak:W.pos.lsn<2147483647) :
 ∃ V Y,LogOn B D' st W' V Y/\∀ b a,RefTold B st W H R b a->RefTold B st W' V Y b a:=by
 rcases a5 with⟨l,rfl,rfl,rfl⟩ | ⟨l,f,al,u,a6,K,L,a7,rfl,rfl,rfl⟩
 . exact⟨H,R,h,fun _ _ h=>h⟩
 obtain⟨b1,b2,b3,b4,M⟩:=h.pos;obtain⟨e1,e2,e3,e4,e5,e6,e7,e8⟩:=K.same;have a8:=t.fit l;have a9:=Ki W.blocks t.full;obtain⟨o,N⟩:=ex (max W.pos.off 1);rw[<- N] at e4;rw[e4];obtain⟨m,a0⟩:=ex W.blocks.length;have am:o+1+m<=23:=by unfold YC at a8;omega
 -- the disk with a head
 have aa:f.now.length=f.n*64/\f.n=D.n/\∀ x,(x≠JC B W.pos.seg\/0<W.pos.off)->seg 64 f.now x=seg 64 D.now x:=by
  rcases K with⟨_,rfl,_⟩ | ⟨O,x,c,rfl,_⟩
  . exact⟨E,rfl,fun _ _=>rfl⟩
  have n:JC B W.pos.seg<D.n:=by rw[J];unfold JC;omega
  refine⟨Jm _ _ _ E n c.len,rfl,fun y hy=>?_⟩;rw[Ka _ _ _ E n c.len,AF Z]
 obtain⟨d1,d2,d3⟩:=aa
 have ab:∃ v,(1<=W.pos.off->v=H W.pos.seg)/\HeadOn f B W.pos.seg v/\Chn f B v (R W.pos.seg) ⟨W.pos.seg,o,W.pos.lsn,W.pos.prev,W.pos.mount⟩:=by
  rcases K with⟨F,rfl,_⟩ | ⟨O,x,c,rfl,_⟩
  . obtain⟨z,A⟩:=h.head F
    exact⟨_,fun _=>rfl,z,by rw[N,Nat.max_eq_left F];exact A⟩
  have n:JC B W.pos.seg<D.n:=by rw[J];unfold JC;omega
  refine⟨⟨W.pos.seg,1,W.pos.lsn,W.pos.prev,W.pos.mount⟩,fun h=>Z,⟨rfl,rfl,M,b3,b4,?_⟩,?_⟩
  . rw[Ka _ _ _ E n c.len,AJ rfl,c.is,XAH]
  rw[(h.off0 O).1]
  show _=_;rw[N,O];rfl
 obtain⟨v,ac,a1,P⟩:=ab;have a2:=Yk f (JC B W.pos.seg+o) (u++W.blocks.flatten) (1+m) d1 (by rw[d2,J];unfold JC;omega) (by rw[AE,L.len,a9];omega);rw[<- a0];have G:∀ x,¬ (JC B W.pos.seg+o<=x/\x<JC B W.pos.seg+o+(1+m))->seg 64 (Qe f (JC B W.pos.seg+o) (u++W.blocks.flatten) (1+m)).now x=seg 64 f.now x:=fun x c=>by rw[a2.2,AF c]
 have C:∀ x,(x<JC B W.pos.seg\/JC B W.pos.seg+24<=x)->seg 64 (Qe f (JC B W.pos.seg+o) (u++W.blocks.flatten) (1+m)).now x=seg 64 D.now x:=fun x c=>by
  rw[G x Z,d3 x (.inl Z)]
 obtain⟨X,d⟩:∃ X:PRec,X=⟨W.pos.mount,W.pos.lsn,W.pos.prev,W.items,W.blocks⟩:=⟨_,rfl⟩
 have ad:X.May:=by
  rw[d];exact⟨M,b3,b4,by rcases hi:W.items with _ | _ <;> simp_all,t.few,t.may,t.many,t.full⟩
 have ae:LiesR (Qe f (JC B W.pos.seg+o) (u++W.blocks.flatten) (1+m)) B ⟨W.pos.seg,o,W.pos.lsn,W.pos.prev,W.pos.mount⟩ X:=by
  refine⟨ad,by rw[d],by rw[d],by rw[d];exact AG _,by rw[d];simp only;omega,fun k n=>?_⟩;have an:k<1+m:=by rw[d] at n;simp only at n;omega
  rw[a2.2,AJ (by simp only;omega)];simp only;rw[show JC B W.pos.seg+o+k-(JC B W.pos.seg+o)=k from Z];rw[d];unfold PRec.bytes;simp only;rw[L.eq]
 have af:YS X.items=false:=by
  rw[d];unfold YS VQ;rw[AU];intro a3;have:=Cj (p:=fun i:PItem=>i.k == 7) (xs:=W.items) (w:=a3);exact(h.wait _ (AN a3)).1 (uq this)
 have a4:=(P.keepD (D':=Qe f (JC B W.pos.seg+o) (u++W.blocks.flatten) (1+m)) (fun x I g=>G x (by rw[a1.seg] at g;simp only at g;omega))).snoc ae af
 have ag:X.behind ⟨W.pos.seg,o,W.pos.lsn,W.pos.prev,W.pos.mount⟩=⟨W.pos.seg,o+1+m,W.pos.lsn+1,a6,W.pos.mount⟩:=by
  rw[d];unfold PRec.behind PRec.sum;simp only;rw[L.sm,BY,a0]
 rw[ag] at a4;refine⟨fun s=>if s=W.pos.seg then v else H s,fun s=>if s=W.pos.seg then R W.pos.seg++[X] else R s,⟨?_,h.here,⟨b1,?_,?_,a7,M⟩,?_,?_,?_,?_,?_,sq,?_,?_,sq⟩,?_⟩
 . intro s j l k n
   have:s≠W.pos.seg:=fun e=>h.here (e ▸ l);exact(h.free s j l k n).keepD Z sq (fun y z A=>C y (by unfold JC at *;omega))
 . simp only;omega
 . simp only;omega
 . intro e;simp only at e;omega
 . intro _
   simp only[Bo];exact⟨a1.keepD (G _ Z),a4⟩
 . intro k ah ai
   try simp only at ah ⊢
   exact(h.rest k Z ai).keepD Z sq (fun y z A=>by rw[G _ Z,d3 _ (.inl Z)])
 . intro s j l Q
   try simp only at Q
   simp only[AF Q];obtain⟨S,Rs,x,q,f2,f3,f4,f5,f6⟩:=h.full s j l Q;have T:=f3.ends;have ao:=f4.room;rw[S.seg] at T;exact⟨S.keepD (C _ (by unfold JC;omega)),Rs,x,q,f2,f3.keepD (fun y I g=>C _ (by rw[S.seg] at I g;unfold JC at *;omega)),f4.keepD (fun y I g=>C _ (by rw[<- T.1] at I g;unfold JC at *;omega)),f5,fun k k1 k2=>(f6 k k1 k2).keepD Z sq (fun y z A=>C y (by rw[<- T.1] at z A;unfold JC at *;omega))⟩
 . intro s j x c i hi U
   try simp only at c
   split at c
   . rename_i e
     rcases AD.1 c with c | c
     . exact h.own _ Z x c i hi U
     simp at c
     subst c;rw[d] at hi;exact(h.wait i hi).2 U
   exact h.own s j x c i hi U
 . intro s j x c
   try simp only at c ⊢
   split at c
   . rcases AD.1 c with c | c
     . have:=h.low _ Z x c;omega
     simp at c
     rw[c,d];simp only;omega
   have:=h.low s j x c;omega
 . intro s j x c b g
   try simp only at c
   split at c
   . rcases AD.1 c with c | c
     . exact h.blk _ Z x c b g
     simp at c
     rw[c,d] at g;exact h.wblk b g
   exact h.blk s j x c b g
 intro b a r
 right;rcases r with r | ⟨s,j,l,r⟩
 . refine⟨W.pos.seg,Z,h.here,?_⟩
   simp only[Bo];rw[Yc P X,Xq];refine A6 _ ?_;unfold VS VS;rw[d];simp only[Bg]
   rwa [show JC B W.pos.seg+YC W.pos.off 0-1=JC B W.pos.seg+o by unfold YC;omega] at r
 refine⟨s,j,l,?_⟩
 try simp only
 split
 . rename_i e
   subst e;rw[Yc P X,Xq];refine At _ ?_;by_cases F:1<=W.pos.off
   . rw[ac F];exact r
   rw[(h.off0 Z).1] at r
   simp[placed,VS] at r
 exact r
theorem LogOn.st {st:Nat->Nat} {R:Nat->List PRec} (h:LogOn B D st W H R) (e:∀ s,s<8->(st' s=0↔st s=0)):LogOn B D st' W H R:=by
 have d:=h.pos.1;exact⟨fun s a b=>h.free s a ((e s a).1 b),fun b=>h.here ((e _ Z).1 b),h.pos,h.off0,h.head,h.rest,fun s a b=>h.full s a (fun c=>b ((e s a).2 c)),h.own,h.wait,h.low,h.blk,h.wblk⟩
theorem RefTold.st {st:Nat->Nat} {R:Nat->List PRec} (h:RefTold B st W H R b a) (e:∀ s,s<8->st s≠0->st' s≠0):RefTold B st' W H R b a:=
 h.imp id (fun⟨s,c,d,f⟩=>⟨s,c,e s c d,f⟩)
theorem LogOn.turned {st:Nat->Nat} {R:Nat->List PRec} (h:LogOn B D st W H R) (a0:Turned B D us W s D' us' W') (hs:s<8) (F:st s=0) (M:W.items=[]) (a1:W.blocks=[])
 (hn:D.now.length=D.n*64) (N:D.n=198+4*pgs B) (a2:1<=W.pos.off) (ab:W.pos.off<=23) (ac:W.pos.lsn<2147483647) :
 ∃ O P,LogOn B D' (fun k=>if k=s then 1 else st k) W' O P/\∀ b a,RefTold B st W H R b a->RefTold B (fun k=>if k=s then 1 else st k) W' O P b a:=by
 obtain⟨o,r,sum,z,Q,S,rfl,-,rfl⟩:=a0;obtain⟨b1,b2,b3,b4,G⟩:=h.pos;have ad:s≠W.pos.seg:=fun e=>h.here (e ▸ F);have T:=Yk D (JC B W.pos.seg+W.pos.off) o 1 hn (by rw[N];unfold JC;omega) (by rw[z.len];omega);have a3:=QP D (JC B W.pos.seg+W.pos.off) o 1;have A:JC B s<(Qe D (JC B W.pos.seg+W.pos.off) o 1).n:=by rw[a3.1,N];unfold JC;omega
 have I:∀ x,seg 64 ((Qe D (JC B W.pos.seg+W.pos.off) o 1).write (JC B s) r).now x=if x=JC B s then r else if x=JC B W.pos.seg+W.pos.off then o else seg 64 D.now x:=fun x=>by
  rw[Ka _ _ _ T.1 A Q.len,T.2]
  split
  . rfl
  split
  . rename_i e
    rw[AJ Z,show x-(JC B W.pos.seg+W.pos.off)=0 from Z];unfold seg;rw[DL,Dm,AK (by rw[z.len];omega)]
  rw[AF Z]
 have t:∀ x,x≠JC B s->x≠JC B W.pos.seg+W.pos.off->seg 64 ((Qe D (JC B W.pos.seg+W.pos.off) o 1).write (JC B s) r).now x=seg 64 D.now x:=fun x d g=>by rw[I,AF d,AF g]
 obtain⟨d,g⟩:=h.head a2;obtain⟨X,f⟩:∃ X:PRec,X=⟨W.pos.mount,W.pos.lsn,W.pos.prev,[⟨7,0,0,s⟩],[]⟩:=⟨_,rfl⟩
 have a4:X.May:=by
  rw[f];exact⟨G,b3,b4,AG _,sq,by intro i hi;simp at hi;subst hi;exact .inr (.inr (.inr (.inr ⟨rfl,rfl,rfl,(show s<=31 from Z)⟩))),rfl,sq⟩
 have a5:LiesR ((Qe D (JC B W.pos.seg+W.pos.off) o 1).write (JC B s) r) B W.pos X:=by
  refine⟨a4,by rw[f],by rw[f],by rw[f];exact AG _,by rw[f];simp only[Ai];omega,fun k A=>?_⟩;obtain rfl:k=0:=by rw[f] at A;simp only[Ai] at A;omega
  rw[I,AF (by unfold JC;omega),AJ Z,f];unfold PRec.bytes seg;simp only[List.flatten_nil,Bg];rw[DL,Dm,<- z.eq,AK (by rw[z.len];omega)]
 have a6:YS X.items=true:=by rw[f];rfl
 have a7:=g.ends;rw[d.off,d.seg] at a7;have a8:=g.keepD (D':=(Qe D (JC B W.pos.seg+W.pos.off) o 1).write (JC B s) r) (fun x u l=>t x (by rw[d.seg] at u l;unfold JC at *;omega) (by rw[d.seg] at l;omega));refine⟨fun k=>if k=s then ⟨s,1,W.pos.lsn+1,sum,W.pos.mount⟩ else H k,fun k=>if k=s then [] else if k=W.pos.seg then R W.pos.seg++[X] else R k,⟨?_,sq,⟨by simp only;omega,sq,?_,S,G⟩,sq,?_,?_,?_,?_,by rw[show ({ W with pos:=(⟨s,1,W.pos.lsn+1,sum,W.pos.mount⟩:PPos) }:PW).items=[] from M];simp,?_,?_,by rw[show ({ W with pos:=(⟨s,1,W.pos.lsn+1,sum,W.pos.mount⟩:PPos) }:PW).blocks=[] from a1];simp⟩,?_⟩
 . intro k m n j hj
   try simp only at n
   split at n
   . omega
   rename_i e
   have:k≠W.pos.seg:=fun e=>h.here (e ▸ n);exact(h.free k m n j hj).keepD Z sq (fun y d g=>t y (by unfold JC at *;omega) (by unfold JC at *;omega))
 . simp only;omega
 . intro _
   simp only[Bo];refine⟨⟨rfl,rfl,G,by simp only;omega,S,?_⟩,rfl⟩;rw[I,AJ rfl,Q.is,XAH]
 . intro k a9 aa
   try simp only at a9 ⊢
   exact(h.free s hs F k aa).keepD Z sq (fun y d g=>t y Z (by unfold JC at *;omega))
 . intro k m n J
   try simp only at J n
   rw[AF J] at n;simp only[AF J];by_cases e:k=W.pos.seg
   . subst e
     simp only[Bo];exact⟨d.keepD (t _ (by unfold JC;omega) Z),_,X,W.pos,rfl,a8,a5,a6,fun k C K=>(h.rest k Z K).keepD Z sq (fun y d g=>t y (by unfold JC at *;omega) (by rw[f] at C;simp only[Ai] at C;omega))⟩
   simp only[AF e]
   obtain⟨v,Rs,x,q,f2,U,V,f5,f6⟩:=h.full k m n e;have w:=U.ends;have ae:=V.room;rw[v.seg,v.off] at w;have E:∀ y,JC B k<=y->y<JC B k+24->seg 64 ((Qe D (JC B W.pos.seg+W.pos.off) o 1).write (JC B s) r).now y=seg 64 D.now y:=fun y d g=>t y (by unfold JC at *;omega) (by unfold JC at *;omega);exact⟨v.keepD (E _ (AG _) Z),Rs,x,q,f2,U.keepD (fun y u l=>E y (by rw[v.seg] at u;omega) (by rw[v.seg] at l;omega)),V.keepD (fun y u l=>E y (by rw[<- w.1] at u;omega) (by rw[<- w.1] at l;omega)),f5,fun j C K=>(f6 j C K).keepD Z sq (fun y d g=>E y (by rw[<- w.1] at d;omega) (by rw[<- w.1] at g;omega))⟩
 . intro k m x c i hi L
   try simp only at c
   split at c
   . simp at c
   split at c
   . rcases AD.1 c with c | c
     . exact h.own _ Z x c i hi L
     simp at c
     subst c;rw[f] at hi;simp at hi;subst hi;cases L
   exact h.own k m x c i hi L
 . intro k m x c
   try simp only at c ⊢
   split at c
   . simp at c
   split at c
   . rcases AD.1 c with c | c
     . have:=h.low _ Z x c;omega
     simp at c
     rw[c,f];simp only;omega
   have:=h.low k m x c;omega
 . intro k m x c b l
   try simp only at c
   split at c
   . simp at c
   split at c
   . rcases AD.1 c with c | c
     . exact h.blk _ Z x c b l
     simp at c
     rw[c,f] at l;simp at l
   exact h.blk k m x c b l
 intro b a p
 right;rcases p with p | ⟨k,m,n,p⟩
 . rw[M] at p
   simp[JAA] at p
 have Y:k≠s:=fun e=>n (e ▸ F)
 refine⟨k,m,by simp only[AF Y];exact n,?_⟩;simp only[AF Y]
 split
 . rename_i e
   subst e;rw[Yc g X,Xq];exact At _ p
 exact p
def stOf (us:List (Nat×Nat)) (s:Nat):Nat:=(us.getD s (0,0)).1
theorem LogOn.added {lv T:List Nat} {i:PItem} {R:Nat->List PRec} (h:LogOn B D (stOf us) W H R) (U:Added B D us lv W i bs D' us' T W' a)
 (d:Cap D us W k j) (V:XO us W (JM i)) (hj:j<=100000) (z:D.now.length=D.n*64) (u:D.n=198+4*pgs B) (hi:i.k≠7) (X:i.loaded=true->i.b<B) (Y:i.loaded=true->KT bs) :
 ∃ g l,LogOn B D' (stOf us') W' g l/\(∀ b a,RefTold B (stOf us) W H R b a->RefTold B (stOf us') W' g l b a)/\(i.loaded=true->RefTold B (stOf us') W' g l i.b a):=by
 obtain⟨m,a0,rfl,G⟩:=U;have I:=d.ul;have a6:=d.lsn;have a1:=d.seg;have a7:JM i<=1:=by unfold JM;split <;> omega
 obtain⟨g,l,f,a2,a3⟩:∃ g l,LogOn B D' (stOf us') m g l/\(∀ b a,RefTold B (stOf us) W H R b a->RefTold B (stOf us') m g l b a)/\m.blocks.length=ZG m.items:=by
  rcases a0 with⟨q,rfl,rfl,rfl,rfl⟩ | ⟨J,q,p,rfl⟩ | ⟨J,q,rfl,K,A,C,p,L⟩
  . exact⟨H,R,h,fun _ _ h=>h,d.ok.many⟩
  . obtain⟨g,l,E,F⟩:=h.emitted p d.ok z u d.off Z
    obtain⟨v,w,-⟩:=p.facts d.ok
    have r:∀ s,stOf us' s=stOf us s:=fun s=>by
     rcases p with⟨_,_,rfl,_⟩ | ⟨_,K,m,M,N,_,_,_,_,rfl,_⟩
     . rfl
     exact XG _ _ _ _
    exact⟨g,l,E.st (fun s _=>by rw[r]),fun b a c=>(F b a c).st (fun s _ c=>by rw[r];exact c),by rw[v,w];rfl⟩
  obtain⟨a8,O⟩:=VL us (V J q)
  obtain⟨a9,aa,E,F⟩:=h.emitted p d.ok z u d.off Z;obtain⟨v,w,P,-,-,e4,e5,e6,-,-,-,e7,-⟩:=p.facts d.ok;have a4:=(p.reads d.ok z u a1 d.off).1
  have Q:1<=C.pos.off/\C.pos.off<=23:=by
   by_cases n:W.items=[]
   . have e:=e5 n
     have:QT W=W.pos.off:=by unfold QT;rw[AJ n]
     rw[this] at q;have:22<=W.pos.off:=by unfold KO YC at q;omega
     have:=d.off;omega
   have e:=e6 n
   have h9:=d.ok.fit n;have:QT W=YC W.pos.off W.blocks.length:=by unfold QT;rw[AF n]
   rw[e,this];unfold YC at *;omega
  obtain⟨g,l,h3,h4⟩:=E.turned L Z O v w a4 (by rw[e7];exact u) Q.1 Q.2 Z;obtain⟨M,hd,N,t1,t2,t3,t4,t5,t6⟩:=L
  have S:A.length=8/\∀ s,s<8->stOf A s=if s=XC us then 1 else stOf us s:=by
   rcases p with⟨_,_,rfl,_⟩ | ⟨_,K,m,M,N,_,_,_,_,rfl,_⟩
   . exact⟨by simp[I],fun s t=>VF _ _ _ _ Z⟩
   exact⟨by simp[I,KG],fun s t=>by unfold stOf;rw[XG];exact VF _ _ _ _ Z⟩
  have r:∀ s,s<8->(stOf us' s=0↔(fun k=>if k=XC us then 1 else stOf us k) s=0):=fun s t=>by
   have:stOf us' s=if s=C.pos.seg then 2 else stOf A s:=by
    rw[t5];unfold stOf;rw[VF _ _ _ _ (by simp[KG,S.1,P];omega),XG]
   rw[this,S.2 s t];simp only
   split
   . rename_i e
     have:=h.here;rw[e,P];have:W.pos.seg≠XC us:=fun e=>this (e ▸ O);rw[AF this];exact⟨Z,fun n=>absurd n h.here⟩
   rfl
  exact⟨g,l,h3.st r,fun b a c=>(h4 b a (F b a c)).st (fun s t c=>fun n=>c ((r s t).1 n)),by rw[t6];simp only;rw[v,w];rfl⟩
 refine⟨g,l,⟨f.free,f.here,f.pos,f.off0,f.head,f.rest,f.full,f.own,fun x c=>?_,f.low,f.blk,fun b o=>?_⟩,fun b a5 c=>(a2 b a5 c).imp (fun c=>?_) id,fun y=>.inl ?_⟩
 . rcases AD.1 c with c | c
   . exact f.wait x c
   simp at c;subst c;exact⟨hi,X⟩
 . simp only at o
   split at o
   . rename_i y
     rcases AD.1 o with o | o
     . exact f.wblk b o
     simp at o;subst o;exact Y y
   exact f.wblk b o
 . simp only
   rw[KAP];exact At _ c
 simp only
 rw[KAP,AJ y];refine A6 _ ?_;rw[AJ y,a3] at G;have:JC B m.pos.seg+YC m.pos.off 0-1+ZG m.items+1=a:=by rw[G];unfold YC;omega
 rw[this];simp
def KL (I:PImage) (b a:Nat):Prop:=I.bl.getD b 0=(a:Nat)\/I.ol.getD b 0=(a:Nat)
def LogS (B:Nat) (S:PS):Prop:=∃ H R,LogOn B S.D (stOf S.us) S.W H R/\∀ b,b<B->∀ a:Nat,0<a->KL S.I b a->RefTold B (stOf S.us) S.W H R b a
structure Dist (I:PImage):Prop where
 bb:∀ b c,0<I.bl.getD b 0->I.bl.getD b 0=I.bl.getD c 0->b=c
 oo:∀ b c,0<I.ol.getD b 0->I.ol.getD b 0=I.ol.getD c 0->b=c
 bo:∀ b c,0<I.bl.getD b 0->I.bl.getD b 0≠I.ol.getD c 0
theorem VM (h:l.length<=i):l.getD i 0=0:=by
 rw[AA,Bc h];rfl
theorem KF (h:i<l.length):l.getD i 0=l[i]:=by
 rw[AA,AC h];rfl
theorem Yg (l:List Int) (i k:Nat) (v:Int) (h:i<l.length):(l.set i v).getD k 0=if k=i then v else l.getD k 0:=by
 rw[AA,BW]
 split
 . rename_i e
   subst e;simp[h]
 rename_i e
 rw[AF (fun h=>e h.symm),<- AA]
theorem Wrote.logG (h:Wrote B S b bs S') (d:Good B S k j) (q:XO S.us S.W (JM ⟨1,b,0,0⟩)) (w:j<=100000) (y:b<B) (z:KT bs) (A:LogS B S) (o:Dist S.I):LogS B S'/\Dist S'.I:=by
 obtain⟨D',us',N,W',a,r,rfl⟩:=h;obtain⟨H,R,C,s⟩:=A;obtain⟨D,E,F,t,G⟩:=C.added r d.cap q w d.now d.many sq (fun _=>y) (fun _=>z);obtain⟨O,P,Q,I,J⟩:=r.readsG d.cap q d.now d.many;obtain⟨K,T⟩:=J rfl;have U:=d.ol;have V:=d.bl;have W:0<a:=by have:=K.lo;omega
 have u:∀ x:Int,x = -1\/RefOk B S x->0<x->x≠(a:Nat):=by
  intro x m g;rcases m with rfl | rfl | ⟨_,hy⟩
  . omega
  . omega
  have:=(I _ hy).2.2 rfl
  omega
 have L:∀ c,S.I.bl.getD c 0≠(a:Nat):=fun c e=>by
  by_cases i:c<S.I.bl.length
  . rw[KF i] at e
    exact u _ (.inr (d.brefs _ (AN i))) Z e
  rw[VM Z] at e;omega
 have v:∀ c,S.I.ol.getD c 0≠(a:Nat):=fun c e=>by
  by_cases i:c<S.I.ol.length
  . rw[KF i] at e
    exact u _ (d.orefs _ (AN i)) Z e
  rw[VM Z] at e;omega
 have n:=fun c=>Yg S.I.ol b c (a:Nat) Z;refine⟨⟨D,E,F,fun c i x m l=>?_⟩,⟨o.bb,fun c e g f=>?_,fun c e g=>?_⟩⟩
 . rcases l with l | l
   . exact t c x (s c i x m (.inl l))
   simp only at l
   rw[n] at l
   split at l
   . rename_i e
     subst e;have:a=x:=Z
     subst this;exact G rfl
   exact t c x (s c i x m (.inr l))
 . simp only at g f
   rw[n] at g f;rw[n] at f
   split at f
   . rename_i p
     split at f
     . rename_i M;rw[p,M]
     exact absurd f.symm (v e)
   rename_i p
   split at f
   . exact absurd f (v c)
   rw[AF p] at g;exact o.oo c e g f
 simp only at g ⊢
 rw[n]
 split
 . exact L c
 exact o.bo c e g
theorem Wrote.log (h:Wrote B S b bs S') (a:Good B S k j) (c:k<=50) (d:j<=100000) (e:b<B) (f:KT bs) (g:LogS B S) (i:Dist S.I):LogS B S'/\Dist S'.I:=
 Wrote.logG h a (a.cap.frees c (by unfold JM;split <;> omega)) d e f g i
theorem Marked.logG (h:Marked B S e S') (g:Good B S k j) (o:XO S.us S.W (JM ⟨3,0,0,e⟩)) (y:j<=100000) (z:1<=e/\e<=j+1) (A:LogS B S) (n:Dist S.I):LogS B S'/\Dist S'.I:=by
 obtain⟨C,D,W,E,a,X,F,Y,bd,od,p,v,rfl⟩:=h;have G:PItem.May ⟨3,0,0,e⟩:=.inr (.inr (.inl ⟨rfl,rfl,rfl,z.1,by simp only;omega⟩));have q:=g.cap.addedG o G (fun h=>by cases h) p;obtain⟨H,R,I,J⟩:=A;obtain⟨a0,a1,K,L,-⟩:=I.added p g.cap o y g.now g.many sq (fun h=>by cases h) (fun h=>by cases h);obtain⟨M,N,-⟩:=p.readsG g.cap o g.now g.many;have a2:=q.lsn;obtain⟨O,P,Q,T⟩:=K.emitted v q.ok M (N.trans g.many) q.off Z
 have w:∀ s,stOf F s=stOf D s:=fun s=>by
  rcases v with⟨_,_,rfl,_⟩ | ⟨_,C,E,rs,a3,_,_,_,_,rfl,_⟩
  . rfl
  exact XG _ _ _ _
 have a4:=g.ol;have a5:=g.bl;have U:S.I.bl.length=S.I.ol.length:=Z
 have r:∀ c,(Kr S.I.bl S.I.ol S.I.ol.length).getD c 0=if S.I.ol.getD c 0 = -1 then S.I.bl.getD c 0 else S.I.ol.getD c 0:=fun c=>by
  rw[Kl U];by_cases m:c<S.I.ol.length
  . rw[KF (by simp;omega),List.getElem_zipWith,KF m,KF Z]
  rw[VM (by simp;omega),VM (l:=S.I.ol) Z,VM (l:=S.I.bl) Z];simp
 have t:∀ c,(Xs S.I.ol S.I.ol.length).getD c 0<=0:=fun c=>by
  rw[JR];by_cases m:c<S.I.ol.length
  . rw[KF (uq m)];simp
  rw[VM (by simp;omega)];omega
 refine⟨⟨O,P,(Q.st (fun s _=>by rw[w])).congr (fun x _=>rfl),fun c m x V i=>?_⟩,⟨fun c f d b=>?_,fun c f d b=>?_,fun c f d b=>?_⟩⟩
 . refine(T c x (L c x (J c m x V ?_))).st (fun s _ h=>by rw[w];exact h)
   rcases i with i | i
   . simp only at i
     rw[r] at i
     split at i
     . exact .inl i
     exact .inr i
   have:=t c
   simp only at i;omega
 . simp only at d b
   rw[r] at d b;rw[r] at b
   split at b
   . rename_i u
     rw[AJ u] at d
     split at b
     . exact n.bb c f d b
     exact absurd b (n.bo c f d)
   rename_i u
   rw[AF u] at d
   split at b
   . exact absurd b.symm (n.bo f c Z)
   exact n.oo c f d b
 . have:=t c;simp only at d;omega
 have:=t f;simp only at d b;omega
theorem Marked.log (h:Marked B S e S') (a:Good B S k j) (b:k<=50) (c:j<=100000) (d:1<=e/\e<=j+1) (f:LogS B S) (g:Dist S.I):LogS B S'/\Dist S'.I:=
 Marked.logG h a (a.cap.frees b (by unfold JM;split <;> omega)) c d f g
theorem QBV {n:Nat} (a:n=198+4*pgs B) (h:VAV n B D) (x:Nat) (f:6+4*pgs B<=x) (b:x<n):seg 64 D.now x=List.replicate 64 0:=by
 have c:D=QBm n B:=h;rw[c];refine XBi a (fun p d e=>?_) b;have:=(KAK d).1;unfold JBn at e;omega
theorem JBF (h:VAV (198+4*pgs B) B D):LogS B (PS.fresh B D)/\Dist (PS.fresh B D).I:=by
 have i:∀ b,(PS.fresh B D).I.bl.getD b 0=0:=fun b=>by
  show (List.replicate B (0:Int)).getD b 0=0;by_cases j:b<B
  . rw[KF (uq j)];simp
  rw[VM (by simp;omega)]
 have l:∀ b,(PS.fresh B D).I.ol.getD b 0<=0:=fun b=>by
  show (List.replicate B (-1:Int)).getD b 0<=0;by_cases j:b<B
  . rw[KF (uq j)];simp
  rw[VM (by simp;omega)];omega
 have m:∀ s,s<8->∀ k,k<24->seg 64 D.now (JC B s+k)=List.replicate 64 0:=fun s d k f=>QBV rfl h _ (by unfold JC;omega) (by unfold JC;omega)
 have o:∀ s,s<8->s≠0->stOf (PS.fresh B D).us s=0:=fun s d e=>by
  show (((1,0) :: List.replicate 7 (0,0)).getD s (0,0)).1=0;obtain⟨k,rfl⟩:∃ k,s=k+1:=⟨s-1,Z⟩;rw[List.getD_cons_succ];rw[AA,Au,AJ Z];rfl
 have n:∀ s,s<8->∀ k,k<24->Stale D (JC B s+k) (24-k) 1:=fun s d k f=>.inl (by rw[m s d k f];simp[KT]);refine⟨⟨fun _=>⟨0,0,1,0,1⟩,fun _=>[],⟨fun s d _ k f=>n s d k f,by simp[stOf,PS.fresh],by simp[PS.fresh,PPos.Ok],fun _=>⟨rfl,m 0 Z 0 Z⟩,fun h=>by simp[PS.fresh] at h,fun k _ f=>n 0 Z k f,fun s d e p=>absurd (o s d p) e,sq,by simp[PS.fresh],sq,sq,by simp[PS.fresh]⟩,fun b _ a q g=>?_⟩,⟨fun b c e _=>by rw[i] at e;omega,fun b c e _=>by have:=l b;omega,fun b c e=>by rw[i] at e;omega⟩⟩;rcases g with g | g
 . rw[i] at g;omega
 have:=l b;omega
theorem LogOn.begins {st:Nat->Nat} {R:Nat->List PRec} (h:LogOn B D st W H R) (sg:Nat) (n:sg<8) (o:st sg≠0) :
 ∃ p0 b0,Begins D B sg p0 b0 (R sg)/\placed p0 (R sg)=placed (H sg) (R sg)/\(R sg).length<=24/\(∀ x∈placed (H sg) (R sg),x.1.seg=sg/\x.1.off<=24/\x.2.May/\x.1.off+(1+x.2.blocks.length)<=24/\x.2∈R sg):=by
 by_cases e:sg=W.pos.seg
 . subst e
   by_cases p:W.pos.off=0
   . obtain⟨g,i⟩:=h.off0 p
     rw[g];exact⟨⟨W.pos.seg,0,0,0,0⟩,false,.inr ⟨rfl,rfl,rfl,i⟩,rfl,sq,by simp[placed]⟩
   obtain⟨g,i⟩:=h.head Z
   have w:=h.pos.2.1;have k:=i.ends
   have r:W.pos.off=24\/W.pos.off<24/\Stale D (JC B W.pos.seg+W.pos.off) (24-W.pos.off) W.pos.lsn:=by
    by_cases s:W.pos.off=24
    . exact .inl s
    exact .inr ⟨Z,h.rest _ (AG _) Z⟩
   refine⟨H W.pos.seg,true,.inl ⟨rfl,g.seg,g.off,g.mount,g.lsn,g.prev,g.bytes,i.chained r⟩,rfl,by rw[g.off] at k;omega,fun x t=>?_⟩;obtain⟨a,b,c,d,f⟩:=i.place x t;have:=c.room;exact⟨a,Z,c.may,Z,f⟩
 obtain⟨g,Rs,x,q,i,l,m,u,z⟩:=h.full sg n o e
 have k:=l.ends;have v:=m.room;rw[g.seg,g.off] at k;rw[i];refine⟨H sg,true,.inl ⟨rfl,g.seg,g.off,g.mount,g.lsn,g.prev,g.bytes,l.last m u⟩,rfl,by rw[AE,Af];omega,fun y j=>?_⟩;rw[Yc l] at j;rcases AD.1 j with j | j
 . obtain⟨a,b,c,d,f⟩:=l.place y j
   have:=c.room;exact⟨by rw[a,<- k.1],Z,c.may,Z,At _ f⟩
 simp at j
 subst j;exact⟨k.1.symm,by simp only;omega,m.may,v,sq⟩
theorem JAi (a:Nat) (is:List PItem):∀ x∈JAA a is,∃ i∈is,i.loaded=true/\x.1=i.b:=by
 induction is generalizing a with
 | nil=>simp[JAA]
 | cons i is ih=>
   unfold JAA;intro x b
   split at b
   . rename_i d
     rcases AL.1 b with rfl | b
     . exact⟨i,sq,d,rfl⟩
     obtain⟨j,c,h⟩:=ih _ x b;exact⟨j,by simp[c],h⟩
   obtain⟨j,c,h⟩:=ih _ x b;exact⟨j,by simp[c],h⟩
theorem JAe {L:List (PPos×PRec)} {q:Nat×Nat} (h:q∈VS B L):∃ x∈L,q∈JAA (JC B x.1.seg+x.1.off) x.2.items:=by
 induction L with
 | nil=>simp[VS] at h
 | cons x L ih=>
   simp only[VS,AD] at h;rcases h with h | h
   . exact⟨x,sq,h⟩
   obtain⟨y,a,h⟩:=ih h;exact⟨y,by simp[a],h⟩
theorem ZBe (a:Nat) (is:List PItem):(JAA a is).Pairwise (fun x y=>x.2<y.2):=by
 induction is generalizing a with
 | nil=>simp[JAA]
 | cons i is ih=>
   unfold JAA
   split
   . rw[List.pairwise_cons]
     refine⟨fun y b=>?_,ih _⟩;have:=Zb _ _ y b;simp only;omega
   exact ih _
theorem YBc (B:Nat) (p:PPos) (Rs:List PRec) (h:∀ R∈Rs,R.blocks.length=ZG R.items):(VS B (placed p Rs)).Pairwise (fun x y=>x.2<y.2)/\∀ x∈VS B (placed p Rs),JC B p.seg+p.off<x.2:=by
 induction Rs generalizing p with
 | nil=>simp[placed,VS]
 | cons R Rs ih=>
   obtain⟨d,c⟩:=ih (R.behind p) (fun S e=>h S (by simp[e]));have i:=h R sq;simp only[placed,VS];refine⟨List.pairwise_append.2 ⟨ZBe _ _,d,fun x a y f=>?_⟩,fun x a=>?_⟩
   . have g:=Zb _ _ x a
     have b:=c y f;simp only[PRec.behind] at b;omega
   rcases AD.1 a with a | a
   . have g:=Zb _ _ x a
     omega
   have b:=c x a
   simp only[PRec.behind] at b;omega
theorem LogOn.told_in {st:Nat->Nat} {R:Nat->List PRec} (h:LogOn B D st W H R) (s:Nat) (a:s<8) (c:st s≠0) (q:Nat×Nat) (d:q∈VS B (placed (H s) (R s))):q.1<B/\JC B s<q.2/\q.2<JC B s+24:=by
 obtain⟨p0,b0,-,-,n,e⟩:=h.begins s a c;obtain⟨x,f,b⟩:=JAe d;obtain⟨g,o,j,p,k⟩:=e x f;obtain⟨i,hi,l,r⟩:=JAi _ _ q b;have t:=h.own s a x.2 k i hi l;have m:=Zb _ _ q b;have u:=j.many;rw[g] at m;omega
theorem ZAg (a:List UInt8) (b:List (List UInt8)) (c:a.length=64) (i:Nat):seg 64 (a++b.flatten) (1+i)=seg 64 b.flatten i:=by
 unfold seg;rw[CH,BL Z,Am]
 congr 2
 omega
theorem LiesR.stale {R:PRec} (h:LiesR D B p R) (c:R.lsn<L) (d:∀ b∈R.blocks,KT b) (k:Nat) (f:p.off<=k) (g:k<p.off+(1+R.blocks.length)):Stale D (JC B p.seg+k) (24-k) L:=by
 by_cases e:k=p.off
 . subst e
   exact .inr ⟨R,h.may,c,by have:=h.room;omega,h.bytes⟩
 left
 obtain⟨i,rfl⟩:∃ i,k=p.off+(1+i):=⟨k-p.off-1,Z⟩;have a:=h.bytes (1+i) Z;have j:R.blocks.length<=6:=by rw[h.may.many];exact AB (YK _) h.may.few
 unfold PRec.bytes at a;rw[ZAg _ _ (QV _ _ _ _ _ (by have:=h.may.few;omega)),Vv R.blocks h.may.full i Z] at a;rw[<- BY,a];exact d _ (AN _)
theorem Chn.stale {Rs:List PRec} (h:Chn D B p Rs q) (c:∀ R∈Rs,R.lsn<L) (d:∀ R∈Rs,∀ b∈R.blocks,KT b) (k:Nat) (e:p.off<=k) (j:k<q.off):Stale D (JC B p.seg+k) (24-k) L:=by
 induction Rs generalizing p with
 | nil=>obtain rfl:p=q:=h;omega
 | cons R Rs ih=>
   obtain⟨f,l,g⟩:=h;by_cases i:k<p.off+(1+R.blocks.length)
   . exact f.stale (c R sq) (d R sq) k e i
   exact ih (p:=R.behind p) g (fun S a=>c S (by simp[a])) (fun S a=>d S (by simp[a])) (by simp only[PRec.behind];omega)
theorem KAv (a b c d:Nat):KT (Js a b c d):=by
 rintro⟨_,h⟩;unfold Js Qp QY at h;simp[XBA,fields,le] at h
theorem LogOn.release {st:Nat->Nat} {R:Nat->List PRec} (h:LogOn B D st W H R) (e:∀ s,s<8->st' s=st s\/(s≠W.pos.seg/\st s≠0/\st' s=0)):LogOn B D st' W H R:=by
 have A:=h.pos.1;refine⟨fun s c i k m=>?_,fun i=>?_,h.pos,h.off0,h.head,h.rest,fun s c i t=>?_,h.own,h.wait,h.low,h.blk,h.wblk⟩
 . rcases e s c with f | ⟨f,j,_⟩
   . exact h.free s c Z k m
   obtain⟨g,Rs,x,q,n,o,u,C,v⟩:=h.full s c j f
   have l:=o.ends;rw[g.seg,g.off] at l;have p:∀ a∈Rs++[x],a.lsn<W.pos.lsn:=fun a d=>h.low s c a (by rw[n];exact d);have r:∀ a∈Rs++[x],∀ b∈a.blocks,KT b:=fun a d=>h.blk s c a (by rw[n];exact d);by_cases w:k=0
   . subst w
     left;have:=g.bytes;rw[BK,this];exact KAv _ _ _ _
   by_cases y:k<q.off
   . have:=o.stale (fun a d=>p a (by simp[d])) (fun a d=>r a (by simp[d])) k (by rw[g.off];omega) y
     rwa [g.seg] at this
   by_cases z:k<q.off+(1+x.blocks.length)
   . have:=u.stale (p x sq) (r x sq) k Z z
     rwa [<- l.1] at this
   have:=v k Z m
   rwa [<- l.1] at this
 . rcases e W.pos.seg Z with f | ⟨f,_⟩
   . exact h.here Z
   exact f rfl
 rcases e s c with f | ⟨_,_,j⟩
 . exact h.full s c Z t
 exact absurd j i