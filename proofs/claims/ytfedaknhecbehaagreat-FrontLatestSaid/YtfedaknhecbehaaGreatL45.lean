/- Lemmas of the proof, with their conditions. -/
import Derived.Test.YtfedaknhecbehaaGreatL35
import Derived.Test.YtfedaknhecbehaaGreatL44
import Derived.Test.YtfedaknhecbehaaGreatL43
import Derived.Test.YtfedaknhecbehaaGreatL38
namespace Go.Proofs.YtfedaknhecbehaaGreat
open Tryz Go.RowKit
variable {D D':PDisk} {B sg s d g base sb b a k j i e L:Nat} {p0 q p:PPos} {b0:Bool} {w:World} {F:List Nat} {W W':PW} {H:Nat->PPos} {us us':List (Nat×Nat)} {st':Nat->Nat} {bs:List UInt8} {l:List Int} {S S':PS}
set_option linter.all false
set_option maxHeartbeats 4000000
set_option maxRecDepth 100000
section
open Go.RowKit Go.Shelf
attribute [local go_sem] AZ
def Vs (D:PDisk) (B:Nat):PPos->List PRec->Prop
 | p,[]=>p.off=24\/p.off<24/\Stale D (VC B p.seg+p.off) (24-p.off) p.lsn
 | p,R :: Rs=>LiesR D B p R/\(XT R.items=true/\Rs=[]\/XT R.items=false/\Vs D B (R.behind p) Rs)
def Begins (D:PDisk) (B sg:Nat) (p0:PPos) (b0:Bool) (Rs:List PRec):Prop:=
 (b0=true/\p0.seg=sg/\p0.off=1/\(1<=p0.mount/\p0.mount<=2147483647)/\(1<=p0.lsn/\p0.lsn<=2147483647)/\p0.prev<=4294967295/\Go.Proofs.YtfedaknhecbehaaGreat.seg 64 D.now (VC B sg)=Zv sg p0.mount p0.lsn p0.prev/\Vs D B p0 Rs) \/
 (b0=false/\p0=⟨sg,0,0,0,0⟩/\Rs=[]/\Go.Proofs.YtfedaknhecbehaaGreat.seg 64 D.now (VC B sg)=List.replicate 64 0)
theorem Begins.seg {Rs:List PRec} (h:Begins D B sg p0 b0 Rs):p0.seg=sg:=by
 rcases h with⟨_,h,_⟩ | ⟨_,rfl,_⟩
 . exact h
 rfl
theorem Begins.run {Rs:List PRec} (h:Begins D B sg p0 b0 Rs):b0=true/\Vs D B p0 Rs\/b0=false/\Rs=[]:=by
 rcases h with⟨a,_,_,_,_,_,_,b⟩ | ⟨a,_,b,_⟩
 . exact .inl ⟨a,b⟩
 exact .inr ⟨a,b⟩
theorem YAi (h:YM w s d g sg q) (C:GeomAt w g B) (ac:DiskAt w base d F D) (ad:D.off=false) (hn:D.n=198+4*pgs B) (ae:sg<=7) (S:D.faults[VC B sg]? = some false)
 (T:Go.Proofs.YtfedaknhecbehaaGreat.seg 64 D.now (VC B sg)=List.replicate 64 0) (af:s∉F) (E:s≠g) :
 Calls prog 382 #[pq s] w fun e w'=>e=.returned (.tuple #[.agg #[ii sg,zz,zz,zz,zz],.bool false])/\YM w' s d g sg q/\Keep [s] w w':=by
 have U:=fun W (i:Keep [s] w W)=>Js (C.keep i (by simpa using fun e=>E e.symm)) (sg:Nat);rw[AJ Z] at U;have ag:=fun W (i:Keep [s] w W)=>ConfigG_is W g B (C.keep i (by simpa using fun e=>E e.symm));have V:∀ W,Keep [s] w W->cr 34 #[pq g,ii sg] W (ii ((VC B sg:Nat))):=fun W i=>Yb W g B (C.keep i (by simpa using fun e=>E e.symm)) sg ae;have G:=fun W (i:Keep [s] w W) (X:YM W s d g sg q)=>Zp X (ac.keep i (fun x H Y=>by simp at Y;subst Y;exact af H)) ad (VC B sg) (by unfold VC;omega) S;rw[T] at G;generalize VC B sg=K at *;have n:=fun W A c (ha:Rd W A 64 (bys (List.replicate 64 0)))=>Kw c ha;generalize (List.replicate 64 (0:UInt8))=hb at *;clear T S hn;have X:=h;have b0:=fun W=>QE (P:=prog) underlying28 2 rfl isAgg3 #[ii B,ii 8,ii 24] rfl W;unfold YM at h;obtain⟨ah,a,c2,ai,c4,c5,c6,c7,c8,c9,aj,ak,al,am⟩:=cells14 h;have an:=h.frozen 13;have ao:=h.lt;have I:=h.set 13 (.int .i64 0);have a0:Keep [s] w (w.setCell (aq s 13) (.int .i64 0)):=kq.sc s 13;have a1:s≠w.heap.size:=Z;simp only[PU] at I;go_enter func382,ntmps382;go_wp2_with fail;have J:=Blk.new (w.setCell (aq s 13) (.int .i64 0)) 49 #[ii sg,zz,zz,zz,zz];rw[Dj] at J;have a2:=a0.alloc (.cells #[ii sg,zz,zz,zz,zz] 49);have a3:=I.kO ((Keep.refl [] _).alloc (.cells #[ii sg,zz,zz,zz,zz] 49));clear I a0 an ao ah a c2 ai c4 c5 c6 c7 c8 c9 aj ak al am h;generalize ((w.setCell (aq s 13) (.int .i64 0)).alloc (.cells #[ii sg,zz,zz,zz,zz] 49))=w1 at *;have j:=J.drew;have k:=a3.drew;have b:=a2.drew;obtain⟨p0,m,o,p,r⟩:=JG j;have a:=(cells14 k).2.1;refine ZT (fun W=>cl W (aq s 1) (pq g)/\cl W w.heap.size (ii sg)/\cl W (aq w.heap.size 1) zz) 22 [[0,1,2,3,4,5],[6,7,8,9,10,11,12,13,14,15,16,17,18,19],[20,21]] ⟨a,p0,m⟩ ?_;simp only[PI];iterate 6 refine wG ?_
 refine YB rq (fun K l=>?_);go_wp2_with (refine(U _ b).mono ?_;rintro e w2 ⟨rfl,rfl⟩);refine l _ _ (⟨a,p0,m⟩) ?_;iterate 13 refine wG ?_
 refine YB rq (fun K l=>?_);go_wp2_with (refine(ag _ b).mono ?_;rintro e w2 ⟨rfl,t⟩);have y:=j.kO t;have L:=k.kO t;have a4:=b.tO t;obtain⟨a5,a6,ap,ar,au⟩:=JG y;have a7:=(cells14 L).2.1;refine l _ _ (⟨a7,a5,a6⟩) ?_;iterate 1 refine wG ?_
 refine KB ?_;clear p0 m o p r a j k b J a2 a3;have av:=y.lt;go_wp2_with fail;have j:=y.drew;have k:=L.drew;have b:=a4.drew;obtain⟨p0,m,o,p,r⟩:=JG j;have a:=(cells14 k).2.1;refine ZT (fun W=>cl W (aq s 1) (pq g)/\cl W w.heap.size (ii sg)) 13 [[0,1,2,3,4,5,6],[7],[8,9,10,11,12]] ⟨a,p0⟩ ?_;simp only[PI];iterate 7 refine wG ?_
 refine YB rq (fun K l=>?_);go_wp2_with (refine(V _ b).mono ?_;rintro e w3 ⟨rfl,z⟩);have M:=j.kO z;have N:=k.kO z;have O:=b.tO z;clear p0 m o p r a k b z a5 a6 ap ar au a7 y L a4 t;refine l _ _ (⟨(cells14 N).2.1,(JG M).1⟩) ?_
 try simp only[Act.put,PU]
 refine YB rq (fun K l=>?_);go_wp2_with (refine(G _ O N).mono ?_;rintro e w4 ⟨u,rfl,hu,a8,Q⟩;obtain⟨aw,uc,rfl,_⟩:=ZB hu);have a9:=M.keep Q (by simpa using fun e=>a1 e.symm);have ax:=O.trans Q (fun x H=>.inl H);clear N O Q M G V j;refine l _ _ (⟨(cells14 a8).2.1,(JG a9).1⟩) ?_;iterate 4 refine wG ?_
 refine KB ?_;replace n:=n w4 aw uc (Rd.of_own hu)
 go_wp2_with (
  refine n.mono ?_;clear n;rintro e w5 ⟨rfl,R⟩;have f:=a9.kO (R.alloc (.cells #[zz,zz,zz,zz] 383));have aa:=a8.kO (R.alloc (.cells #[zz,zz,zz,zz] 383));obtain⟨p0,m,o,p,r⟩:=JG f;have c7:=(cells14 aa).2.2.2.2.2.2.2.1;have g0:=f.frozen 0;have g1:=f.frozen 1;have g2:=f.frozen 2;have g3:=f.frozen 3;have g4:=f.frozen 4;have av:=f.lt)
 have ay:=ax.tO (R.alloc (.cells #[zz,zz,zz,zz] 383));obtain⟨az,ab⟩:=JAp f (.int .i64 sg) (.int .i64 0) (.int .i64 0) (.int .i64 0) (.int .i64 0);obtain⟨y0,y1,y2,y3,y4⟩:=JG az;exact Af (v:=.tuple #[.agg #[ii sg,zz,zz,zz,zz],.bool false]) (by simp[results,results382,go_sem,y0,y1,y2,y3,y4]) rfl ⟨rfl,aa.keep ab (uq a1),ay.trans ab iq⟩
theorem KAk {Rs:List PRec} (b:YM w s d g sg q) (c:GeomAt w g B) (h:DiskAt w base d F D) (f:D.off=false) (i:D.n=198+4*pgs B) (j:sg<=7) (k:D.faults[VC B sg]? = some false)
 (u:Begins D B sg p0 b0 Rs) (l:s∉F) (m:s≠g) :
 Calls prog 382 #[pq s] w fun e w'=>e=.returned (.tuple #[.agg #[p0.seg,p0.off,p0.lsn,p0.prev,p0.mount],.bool b0])/\YM w' s d g sg q/\Keep [s] w w':=by
 rcases u with⟨rfl,n,o,p,r,t,a,-⟩ | ⟨rfl,rfl,rfl,a⟩
 . obtain⟨A,C,v,y,z⟩:=p0
   simp only at n o p r t a;subst n o;exact ZAk z v y b c h f i j k p r t a l m
 exact YAi b c h f i j k a l m
end
section
open Go.RowKit Go.Shelf
attribute [local go_sem] AZ
def placed:PPos->List PRec->List (PPos×PRec)
 | _,[]=>[]
 | p,R :: Rs=>(p,R) :: placed (R.behind p) Rs
abbrev PTold:=PPos×PRec×Value×Value
def JAv (x:PTold):Array Value:=#[.agg #[ii x.1.seg,ii x.1.off,ii x.1.lsn,ii x.1.prev,ii x.1.mount],.agg #[ii x.2.1.mount,ii x.2.1.lsn,ii x.2.1.prev,x.2.2.1,x.2.2.2]]
def KBY (L:List (PPos×PRec)) (pre:List PTold) (x:PTold) (W:World):Prop:=L[pre.length]? = some (x.1,x.2.1)/\RecHold W 0 x.2.2.1 x.2.2.2 x.2.1
def QBZ (L:List (PPos×PRec)) (s d g sg:Nat) (xs:List PTold) (W:World):Prop:=xs.map (fun x=>(x.1,x.2.1))=L/\∃ q,YM W s d g sg q
theorem JAw {W:World} {t:TypeId} {f g i j k l m n r u v w y o:Value} (h:Blk W s t #[f,g,i,j,k,l,m,n,r,u,v,w,y,o]) (a b c d e:Value) :
 Blk (((((W.setCell (aq s 8) a).setCell (aq s 9) b).setCell (aq s 10) c).setCell (aq s 11) d).setCell (aq s 12) e) s t #[f,g,i,j,k,l,m,n,a,b,c,d,e,o] /\
 Keep [s] W (((((W.setCell (aq s 8) a).setCell (aq s 9) b).setCell (aq s 10) c).setCell (aq s 11) d).setCell (aq s 12) e):=by
 have p:=((((h.set 8 a).set 9 b).set 10 c).set 11 d).set 12 e;simp only[PU] at p;exact⟨p,(((((Keep.refl [s] W).sc s 8).sc s 9).sc s 10).sc s 11).sc s 12⟩
structure KPla (w:World) (N pc sb s d g B base sg:Nat) (F:List Nat) (D:PDisk) (L:List (PPos×PRec)) (J:List PTold->World->Prop) (b:Value) (p:PPos) (W:World):Prop where
 run:∃ pre rest,J pre W/\pre.map (fun x=>(x.1,x.2.1))++placed p rest=L/\(b=.bool true/\Vs D B p rest\/b=.bool false/\rest=[])
 sc:∃ q,YM W s d g sg q
 pos:Blk W pc 49 #[ii p.seg,ii p.off,ii p.lsn,ii p.prev,ii p.mount]
 sb:Boxed W sb 274 (.pointer (some s))
 disk:DiskAt W base d F D
 geom:GeomAt W g B
 size:w.heap.size<=W.heap.size
 seg:p.seg=sg
def YAU (pc:Nat) (b:Value) (W:World):Nat:=
 match b with
 | .bool true=>match W.cell? (aq pc 1) with
   | some v=>25-(intOf v).toNat
   | none=>0
 | _=>0
theorem QAb (n:Nat) {Rs:List PRec} (G:List TypeId)
 (t1:186∉G) (t2:290∉G) (t3:292∉G) (t4:4∉G) (t5:175∉G) (t6:375∉G) (t7:274∉G) (t8:49∉G) (M:Boxed w sb 274 (.pointer (some s))) (hs:YM w s d g sg q) (Y:GeomAt w g B) (h:DiskAt w base d F D) (b3:D.off=false) (hn:D.n=198+4*pgs B) (b4:sg<=7) (hf:∀ k,k<D.n->D.faults[k]? = some false)
 (an:Begins D B sg p0 b0 Rs) (a7:s∉F) (a8:s≠g) (a9:sb≠s) :
 QBr n prog 381 #[pq sb] JAv (KBY (placed p0 Rs)) [s] [375,49] G (QBZ (placed p0 Rs) s d g sg) w:=by
 intro l aa W ab d6 ao d7 b5 h0;have ch:VC B sg<D.n:=by unfold VC;omega
 have ci:=h.lt;have d8:=Y.lt;have d9:=M.lt;replace hs:YM W s d g sg q:=Blk.kO hs ab;replace Y:=Y.kO ab;replace h:=h.kO ab;replace M:Boxed W sb 274 (.pointer (some s)):=KA M ab sq
 have br:∀ a A B,aa a A->Keep [s] A B->(∃ q,YM A s d g sg q)->aa a B:=fun a A B hj hk H=>ao a A B [s] hj hk (fun x i=>by
  simp at i;subst i;obtain⟨q,hq⟩:=H;exact⟨.inl sq,_,_,hq,sq⟩)
 have bs:∀ a A B,aa a A->kz A B->aa a B:=fun a A B hj hk=>ao a A B [] hj hk sq;have b6:=AR (n:=n-1).2 (KAk (base:=base) (F:=F) (D:=D) hs Y h b3 hn b4 (hf _ ch) an a7 a8);have bt:=an.seg;have b7:=an.run;obtain⟨f,u,y,z,C⟩:=p0;simp only at bt b6;subst bt;obtain⟨p0,b8⟩:∃ p0:PPos,p0=⟨f,u,y,z,C⟩:=⟨_,rfl⟩;rw[<- b8] at b7 b5 ⊢;have cj:=JB b5;have ck:=JB ao;have b9:=JB br;have bu:=JB bs;have cl:=JB b8;have cm:=JB b7;have bv:=JB hf;clear b5 ao br bs b8 b7 an hf;refine Cx func381 rfl trivial ?_ rfl;simp only[ntmps381,PL,Nat.reduceAdd,Nat.reduceSub];have N:=M.cell
 gi_wp2_with (
  refine⟨trivial,fun h=>by simp[Fence.wide] at h,?_⟩;refine b6.mono ?_;clear b6 N;rintro e w1 ⟨rfl,ap,ac⟩;have cn:=(KA M ac (uq a9)).cell;have co:=(KA M (ac.alloc (.cells #[ii f,ii u,ii y,ii z,ii C] 49)) (uq a9)).cell;have o:YM (w1.alloc (.cells #[ii f,ii u,ii y,ii z,ii C] 49)) s d g f q:=Blk.kO ap (kq.alloc _);have a0:=id o;unfold YM at o;obtain⟨ar,au,c2,av,c4,c5,c6,c7,c8,c9,ad,ae,af,aw⟩:=cells14 o;have f8:=o.frozen 8;have f9:=o.frozen 9;have ba:=o.frozen 10;have bb:=o.frozen 11;have bc:=o.frozen 12;have bd:=o.lt)
 obtain⟨ag,r⟩:=JAw o (.int .i64 (f:Nat)) (.int .i64 (u:Nat)) (.int .i64 (y:Nat)) (.int .i64 (z:Nat)) (.int .i64 (C:Nat));have bw:YM _ s d g f ⟨f,u,y,z,C⟩:=ag;have O:=ac.alloc (.cells #[ii f,ii u,ii y,ii z,ii C] 49);have ah:=O.trans r (fun x i=>.inl i);have a1:=(Blk.new w1 49 #[ii f,ii u,ii y,ii z,ii C]).keep r (by have:=ap.lt;simp;omega);have ai:=JA b9 _ _ _ h0 ah ⟨q,hs⟩;have aj:=KA M ah (uq a9);have ak:=h.keep ah (fun x i T=>by simp at T;subst T;exact a7 i);have al:=Y.keep ah (by simpa using fun e=>a8 e.symm);have cp:w.heap.size<=w1.heap.size:=AA ab.size ac.size;have da:s<w1.heap.size:=ap.lt;clear a0 o ar au c2 av c4 c5 c6 c7 c8 c9 ad ae af aw f8 f9 ba bb bc bd cn co O r ag M h Y hs h0 ah ac ap;generalize (((((((w1.alloc (.cells #[ii f,ii u,ii y,ii z,ii C] 49)).setCell (aq s 8) (.int .i64 f)).setCell (aq s 9) (.int .i64 u)).setCell (aq s 10) (.int .i64 y)).setCell (aq s 11) (.int .i64 z)).setCell (aq s 12) (.int .i64 C)))=w2 at *;generalize w1.heap.size=pc at *
 gi_loopw [4] (fun b wr=>∃ p:PPos,KPla w w.heap.size pc sb s d g B base f F D (placed p0 Rs) aa b p wr)
  (fun b wr=>YAU pc b wr)
 case atStart=>
  have:=JA cl;exact⟨⟨f,u,y,z,C⟩,⟨[],Rs,ai,by rw[this];rfl,by have h9:=JA cm;rw[this] at h9;rcases h9 with⟨J,K⟩ | ⟨J,K⟩;exact .inl ⟨by rw[J],K⟩;exact .inr ⟨by rw[J],K⟩⟩,⟨_,bw⟩,a1,aj,ak,al,by have:=a1.lt;omega,rfl⟩
 clear ai bw a1 aj ak al;obtain⟨⟨cq,U,bf,bg,bh⟩,j⟩:=hrel;obtain rfl:f=cq:=j.seg.symm;obtain⟨bi,cr,bj,a2,cs⟩:=j.run;obtain⟨q1,H⟩:=j.sc;have ct:=j.sb.cell;obtain⟨x0,x1,x2,x3,x4⟩:=JG j.pos;simp only at x0 x1 x2 x3 x4;rcases cs with⟨rfl,N⟩ | ⟨rfl,rfl⟩
 . cases cr with
   | nil=>
     have a3:=AR (n:=n-1).2 (YAl (w:=wr) (s:=s) (d:=d) (g:=g) (sg:=f) (q:=q1) ⟨f,U,bf,bg,bh⟩ H j.geom j.disk b3 hn (JA bv) b4 N a7 a8);have a4:=JB a2;have t:=JB j;clear N a2 j;gi_wp2_with (refine⟨trivial,fun h=>by simp[Fence.wide] at h,?_⟩;refine a3.mono ?_;clear a3;rintro e w3 ⟨rfl,a0,ax⟩);refine Af (results_none rfl _ _ _) rfl ?_;refine⟨⟨_,rfl⟩,bi,⟨by have:=JA a4;simpa [placed] using this,_,Blk.kO a0 ((kq.alloc _).alloc _)⟩,?_⟩
     exact JA bu _ _ _ (JA b9 _ _ _ bj ax ⟨_,H⟩) ((kq.alloc _).alloc _)
   | cons R Rs'=>
     obtain⟨ay,N⟩:=N;have a3:=AR (n:=n-1).2 (ZAi (w:=wr) (s:=s) (d:=d) (g:=g) (sg:=f) (q:=q1) H j.geom j.disk b3 hn (JA bv) b4 ay a7 a8);have a4:=JB a2;have t:=JB j;have cu:=JB N;have bk:=JB ay;have cv:U+(1+R.blocks.length)<=24:=ay.room;obtain⟨P,bl⟩:=ex (U+(1+R.blocks.length));obtain⟨Q,bm⟩:=ex (R.lsn+1);obtain⟨S,bn⟩:=ex R.sum;simp only[<- bl,<- bm,<- bn] at a3;have bx:=JB bl;have cw:=JB bm;have cx:=JB bn;clear N a2 j ay bl bm bn cv
     gi_wp2_with (
      refine⟨trivial,fun h=>by simp[Fence.wide] at h,?_⟩;refine a3.mono ?_;clear a3;rintro e w3 ⟨I,cy,rfl,az,a0,ax⟩;obtain⟨gi,ic,rfl,_⟩:=JE az.its (JA bk).may.some;obtain⟨BA,V,X,rfl⟩:∃ BA V X,cy=.slice BA V X:=by obtain⟨ls,-,K,-⟩:=az.bls;obtain⟨A,c,h,_⟩:=ZB K;exact⟨A,_,c,h⟩
      have O:kz w3 ((w3.alloc (.cells #[ii R.mount,ii R.lsn,ii R.prev,.slice (some gi) R.items.length ic,.slice BA V X] 280)).alloc (.cells #[ii f,ii P,ii Q,ii S,ii R.mount] 49)):=(kq.alloc _).alloc _;have ag:=Blk.kO a0 O;have m:=id ag;unfold YM at m;obtain⟨ar,au,c2,av,c4,c5,c6,c7,c8,c9,ad,ae,af,aw⟩:=cells14 m;have f8:=m.frozen 8;have f9:=m.frozen 9;have ba:=m.frozen 10;have bb:=m.frozen 11;have bc:=m.frozen 12;have bd:=m.lt;have bz:=KA (KA (JA t).sb ax (uq a9)) O sq;have cz:=bz.cell)
     obtain⟨am,b1⟩:=JAw m (.int .i64 (f:Nat)) (.int .i64 (P:Nat)) (.int .i64 (Q:Nat)) (.int .i64 (S:Nat)) (.int .i64 (R.mount:Nat));have ca:YM _ s d g f ⟨f,P,Q,S,R.mount⟩:=am;have cb:=(az.kO O).keepB m (by decide) (by decide) (by decide) b1;have b2:=(Blk.new w3 280 #[ii R.mount,ii R.lsn,ii R.prev,.slice (some gi) R.items.length ic,.slice BA V X]).kO ((Keep.refl [] _).alloc (.cells #[ii f,ii P,ii Q,ii S,ii R.mount] 49));have db:=a0.lt;replace b2:=b2.keep b1 (by simp;omega);have dc:=(JA t).pos.lt;have r:Keep [s] wr _:=(ax.tO O).trans b1 (fun x i=>.inl i);have dd:=H.lt;have cc:pc≠s:=fun e=>by subst e;have J:=H.symm.trans (JA t).pos;simp at J
     have a1:=(JA t).pos.keep r (uq cc);have aj:=KA (JA t).sb r (uq a9);have ak:=(JA t).disk.keep r (fun x i T=>by simp at T;subst T;exact a7 i);have al:=(JA t).geom.keep r (by simpa using fun e=>a8 e.symm);have ai:=JA b9 _ _ _ bj r ⟨_,H⟩;have de:w.heap.size<=wr.heap.size:=(JA t).size;have df:=r.size;clear ar au c2 av c4 c5 c6 c7 c8 c9 ad ae af aw f8 f9 ba bb bc bd cz bz m ag O b1 am r az;generalize ((((((((w3.alloc (.cells #[ii R.mount,ii R.lsn,ii R.prev,.slice (some gi) R.items.length ic,.slice BA V X] 280)).alloc (.cells #[ii f,ii P,ii Q,ii S,ii R.mount] 49)).setCell (aq s 8) (.int .i64 f)).setCell (aq s 9) (.int .i64 P)).setCell (aq s 10) (.int .i64 Q)).setCell (aq s 11) (.int .i64 S)).setCell (aq s 12) (.int .i64 R.mount)))=w4 at *;generalize w3.heap.size=rb at *;have bo:=AR (n:=n-1).2 (JAi R.mount R.lsn R.prev gi R.items.length ic (.slice BA V X) R.items (Rd.of_ownN cb.its) rfl (JA bk).may.few rfl);obtain⟨lb,bp⟩:=ex (XT R.items);rw[<- bp] at bo;have d0:=JB bp;clear bp
     gi_wp2_with (
      refine⟨trivial,fun h=>by simp[Fence.wide] at h,?_⟩;refine bo.mono ?_;clear bo;rintro e w5 ⟨⟨v,rfl⟩,E⟩;clear x0 x1 x2 x3 x4 ct;have bq:=a1.kO E;have cd:=b2.kO E;obtain⟨x0,x1,x2,x3,x4⟩:=JG bq;obtain⟨r0,r1,r2,r3,r4⟩:=VD cd
      obtain⟨fn,dg,dh,di,hy,ce⟩:=JA cj bi (⟨f,U,bf,bg,bh⟩,R,.slice (some gi) R.items.length ic,.slice BA V X) w5 (JA bu _ _ _ ai E) ⟨by
       have:=JA a4;rw[<- this,Bc sq,BR,CS];rfl,(cb.kO E).base (AS _)⟩
      dsimp only[JAv] at hy)
     refine⟨fun h=>by simp[Fence.wide] at h,ce.mono ?_⟩;rintro e w6 ⟨rfl,d1,a5⟩;have m:Blk w5 s _ _:=Blk.kO ca E;have am:=a5.blk m t6;have L:=a5.blk bq t8;have cf:=a5.box (KA aj E sq) t7;have d2:=a5.disk (ak.kO E) t1 t2 t3 t4;have d3:=a5.geom (al.kO E) t5;have dj:=a5.size;have dk:=E.size;clear x0 x1 x2 x3 x4 r0 r1 r2 r3 r4 hy ce cd b2 a1 aj ak al ai ca m bq E;obtain⟨x0,x1,x2,x3,x4⟩:=JG L;obtain⟨ar,au,c2,av,c4,c5,c6,c7,c8,c9,ad,ae,af,aw⟩:=cells14 am;simp only at c8 c9 ad ae af;have f0:=L.frozen 0;have f1:=L.frozen 1;have f2:=L.frozen 2;have f3:=L.frozen 3;have f4:=L.frozen 4;have dl:=L.lt;have dm:=cf.cell
     gi_wp2
     obtain⟨cg,a6⟩:=JAp L (.int .i64 (f:Nat)) (.int .i64 (P:Nat)) (.int .i64 (Q:Nat)) (.int .i64 (S:Nat)) (.int .i64 (R.mount:Nat));go_roundw
     case rel=>
      have d4:=JA cu;refine⟨R.behind ⟨f,U,bf,bg,bh⟩,⟨_,Rs',JA ck _ _ _ [pc] d1 a6 (fun x i=>by simp at i;subst i;exact⟨.inr cp,_,_,L,sq⟩),by rw[<- JA a4,BZ];simp[placed],?_⟩,⟨⟨f,P,Q,S,R.mount⟩,Blk.keep am a6 (by simpa using fun e=>cc e.symm)⟩,?_,KA cf a6 ?_,d2.keep a6 ?_,d3.keep a6 ?_,by have:=a6.size;omega,rfl⟩
      . rw[JA d0]
        rcases d4 with⟨J,K⟩ | ⟨J,K⟩
        . rw[J];exact .inr ⟨rfl,K⟩
        rw[J];exact .inl ⟨rfl,K⟩
      . have e1:=JA bx
        have e2:=JA cw;have e3:=JA cx;subst e1 e2 e3;exact cg
      . simp only[Ak];omega
      . intro x i T
        have:=ci x i;simp only[Ak] at T;omega
      simp only[Ak];omega
     case measure=>
      have y1:=(JG cg).2.1;have d5:=(JG (JA t).pos).2.1;have e1:=JA bx;have e2:U+(1+R.blocks.length)<=24:=(JA bk).room
      have m1:YAU pc (.bool true) wr=25-U:=by
       unfold YAU;rw[d5];simp[intOf]
      rw[m1];cases lb
      . unfold YAU
        rw[y1];simp only[Bool.not_false,intOf,BK];omega
      simp only[YAU,Bool.not_true];omega
 have a4:=JB a2;have t:=JB j;clear a2 j
 gi_wp2
 go_end0
 exact⟨⟨_,rfl⟩,bi,⟨by have:=JA a4;simpa [placed] using this,_,H⟩,bj⟩
end
section
open Go.RowKit Go.Shelf
attribute [local go_sem] AZ
def JAu (x:PTold):Array Value:=#[ii x.1.off,.agg #[ii x.2.1.mount,ii x.2.1.lsn,ii x.2.1.prev,x.2.2.1,x.2.2.2]]
theorem VBR (n:Nat) (v:Value) (w:World) (a:v.oneCell'=true) :
 CallsIn Fence.wide n prog 211 #[v] w fun e w'=>e=.returned (.func (.func 325) #[] #[pq w.heap.size])/\w'=w.alloc (.cells #[v] 274):=by
 refine(AR (n:=n)).2 ?_;go_enter func211,ntmps211
 go_wp2
 go_ret;exact⟨rfl,rfl⟩
structure KRcs (b2 l N:Nat) (J:List PTold->World->Prop) (pre:List PTold) (W:World):Prop where
 out:J pre W
 box:Boxed W b2 376 (.func (.yield l) #[] #[])
 size:N<=W.heap.size
theorem KAS (n:Nat) {Rs:List PRec} (a:List TypeId)
 (t1:186∉a) (t2:290∉a) (t3:292∉a) (t4:4∉a) (t5:175∉a) (t6:375∉a) (t7:274∉a) (t8:49∉a) (t9:376∉a)
 (w:World) (hb:Boxed w sb 274 (.pointer (some s))) (H:YM w s d g sg q) (hg:GeomAt w g B) (h:DiskAt w base d F D) (aj:D.off=false) (hn:D.n=198+4*pgs B) (ak:sg<=7) (hf:∀ k,k<D.n->D.faults[k]? = some false)
 (al:Begins D B sg p0 b0 Rs) (am:s∉F) (an:s≠g) :
 QBr n prog 325 #[pq sb] JAu (KBY (placed p0 Rs)) [s] [375,49] a (QBZ (placed p0 Rs) s d g sg) w:=by
 intro l a6 W J ay a7 a8 a9 h0;have az:=H.lt;replace H:YM W s d g sg q:=Blk.kO H J;replace hg:=hg.kO J;replace h:=h.kO J;replace hb:Boxed W sb 274 (.pointer (some s)):=KA hb J sq;have hc:=(KA hb ((Keep.refl [] W).alloc (.cells #[.func (.yield l) #[] #[]] 376)) sq).cell;have ao:=JB a9;have aa:=JB a7;have ab:=JB a8;clear a9 a7 a8;refine callsIn_of_wp_marks func325 rfl trivial ?_ rfl;simp only[ntmps325,PL,Nat.reduceAdd,Nat.reduceSub]
 gi_wp2
 refine⟨trivial,fun h=>by simp[Fence.wide] at h,?_⟩;refine(XAQ _ _ _ rfl).mono ?_;rintro e w' ⟨rfl,rfl⟩
 gi_wp2
 obtain⟨w1,Q⟩:=ex (W.alloc (.cells #[.func (.yield l) #[] #[]] 376));obtain⟨r,S⟩:=ex (w1.alloc (.cells #[pq s] 274));rw[<- Q,<- S];have s1:w1.heap.size=W.heap.size+1:=by rw[Q,AN]
 have s2:r.heap.size=W.heap.size+2:=by rw[S,AN,s1]
 have k1:kz W w1:=by rw[Q];exact kq.alloc _
 have k2:kz w1 r:=by rw[S];exact kq.alloc _
 have T:kz W r:=k1.tO k2;have U:Boxed r W.heap.size 376 (.func (.yield l) #[] #[]):=KA (by rw[Q];exact Boxed.new W _ _) k2 sq;have u:Boxed r (W.heap.size+1) 274 (.pointer (some s)):=by rw[S,<- s1];exact Boxed.new w1 _ _
 have b1:=J.size;have b2:=H.lt;have X:KRcs W.heap.size l r.heap.size a6 [] r:=⟨JA aa _ _ _ [] h0 T sq,U,AG _⟩;have Y:=QAb (n-1) a t1 t2 t3 t4 t5 t6 t7 t8 u (Blk.kO H T) (hg.kO T) (h.kO T) aj hn ak hf al am an Z
 refine Qz (n:=n) (gf:=381) (lb:=#[pq (W.heap.size+1)]) rfl (enters_of func381 (by kernel_rfl) rfl)
  (fun xs V k o j v hl b f=>⟨v.1,v.2.choose,YF j v.2.choose_spec b f⟩) Y (fun _=>rfl) (fun x hx=>by simp at hx;omega)
  (KRcs W.heap.size l r.heap.size a6) ?hI ?hIb (fun a0 x A B m K=>⟨m.1,m.2.kO K⟩) ?hFb X
  (fun x M V=>∃ N O,M={ tmps:=#[.func (.yield l) #[] #[],pq sb,pq W.heap.size,pq N,pq O,pq s,.func (.func 381) #[] #[pq (W.heap.size+1)],.agg #[.int .i64 x.1.seg,.int .i64 x.1.off,.int .i64 x.1.lsn,.int .i64 x.1.prev,.int .i64 x.1.mount],.agg #[.int .i64 x.2.1.mount,.int .i64 x.2.1.lsn,.int .i64 x.2.1.prev,x.2.2.1,x.2.2.2],undef,undef,undef,undef,undef,undef],defers:=[] }/\Blk V N 49 #[.int .i64 x.1.seg,.int .i64 x.1.off,.int .i64 x.1.lsn,.int .i64 x.1.prev,.int .i64 x.1.mount]/\Blk V O 280 #[.int .i64 x.2.1.mount,.int .i64 x.2.1.lsn,.int .i64 x.2.1.prev,x.2.2.1,x.2.2.2])
  ?hAb ?assign ?body ?done
 case hI=>
  intro xs A V L a1 K ac
  have ap:∀ x∈L,JBq [s] [375,49] w.heap.size A x:=fun x hx=>by
   obtain⟨y,i⟩:=ac x hx;exact⟨y.imp id (fun h=>Z),i⟩
  exact⟨JA aa _ _ _ L a1.out K ap,KA a1.box K (fun hm=>by
   obtain⟨-,cs,t,e1,e2⟩:=ac _ hm;have e3:=a1.box.symm.trans e1;simp at e3;obtain⟨-,rfl⟩:=e3;simp at e2),AA a1.size K.size⟩
 case hIb=>
  intro xs V k o j z hl b f;exact⟨JA ab _ _ _ _ _ z.out Z b f,JC j z.box b f,by rw[World.putObj_size];exact z.size⟩
 case hFb=>
  intro a0 x V k o j z hl b f;obtain⟨y,hi,ls,i,h3,h4⟩:=z;exact⟨y,XM j hi b f,ls,i,XM j h3 b f,fun q hq=>XM j (h4 q hq) b f⟩
 case hAb=>
  intro x M V k o j z hl b f;obtain⟨N,O,y,i,h3⟩:=z;exact⟨N,O,y,YF j i b f,YF j h3 b f⟩
 case assign=>
  rintro ar a0 ⟨p,R,I,P⟩ V b3 C m ad;have E:RecHold V 0 I P R:=m.2;obtain⟨ae,ic,rfl,_⟩:=ZB E.its;obtain⟨BA,G,af,rfl⟩:∃ BA G u,P=.slice BA G u:=by obtain⟨ls,-,i,-⟩:=E.bls;obtain⟨A,c,h,_⟩:=ZB i;exact⟨A,_,c,h⟩
  have ag:=fun M au y i=>ad M au y i;have av:=JB ag;clear ad ag Y X U u m E;dsimp only[JAv]
  gi_wp2
  have ka:kz V (V.alloc (.cells #[ii p.seg,ii p.off,ii p.lsn,ii p.prev,ii p.mount] 49)):=kq.alloc _;refine JA av _ _ (ka.alloc _) ⟨_,_,rfl,(Blk.new V _ _).kO ((Keep.refl [] _).alloc _),Blk.new1 V _ _ _⟩
 case body=>
  rintro ar a0 ⟨p,R,I,P⟩ M V C m ⟨N,O,rfl,a2,a3⟩;have E:RecHold V 0 I P R:=m.2;obtain⟨ae,ic,rfl,_⟩:=ZB E.its;obtain⟨BA,G,af,rfl⟩:∃ BA G u,P=.slice BA G u:=by obtain⟨ls,-,i,-⟩:=E.bls;obtain⟨A,c,h,_⟩:=ZB i;exact⟨A,_,c,h⟩
  dsimp only at a2 a3 ⊢;obtain⟨x0,x1,x2,x3,x4⟩:=JG a2;obtain⟨r0,r1,r2,r3,r4⟩:=VD a3;have aw:=C.box.cell;obtain⟨fn,b4,assign,body,hy,ah⟩:=JA ao a0 (p,R,.slice ae R.items.length ic,.slice BA G af) V C.out m;dsimp only[JAu] at hy;have ai:=JB C;clear Y X U u m E C a2 a3
  gi_wp2
  refine⟨fun h=>by simp[Fence.wide] at h,(KW ah).mono ?_⟩;rintro e b5 ⟨rfl,ax,a4⟩;clear hy ah x0 x1 x2 x3 x4 r0 r1 r2 r3 r4 aw
  gi_wp2
  exact⟨a4,ax,a4.box (JA ai).box t9,AA (JA ai).size a4.size⟩
 case done=>
  intro D' xs V b6 v C a5;clear Y X U u
  gi_wp2
  refine⟨sq,.inl ⟨_,_,rfl,run_takeDeferred a5,?_⟩⟩;refine⟨.tuple #[],by simp[results,results325,go_sem],⟨_,rfl⟩,xs,⟨v.1,v.2.choose,YF _ v.2.choose_spec a5 rfl⟩,JA ab _ _ _ _ _ C.out Z a5 rfl⟩
end
section
open Go.RowKit Go.Shelf
attribute [local go_sem] AZ
def JS (I:PImage) (b:Nat) (at':Nat):Bool:=decide (I.bl.getD b 0=(at':Int)) || decide (Xg I b=(at':Int))
def blc (x:Nat×Nat):List Value:=[.int .i64 x.1,.int .i64 x.2]
def YR (I:PImage) (a:Nat):List PItem->List (Nat×Nat)
 | []=>[]
 | i :: is=>if i.loaded then (if JS I i.b (a+1) then [(i.b,a+1)] else [])++YR I (a+1) is else YR I a is
theorem XAX (I:PImage) (a:Nat) (is:List PItem) (i:PItem) :
 YR I a (is++[i])=YR I a is++(if i.loaded then (if JS I i.b (a+ZG is+1) then [(i.b,a+ZG is+1)] else []) else []):=by
 induction is generalizing a with
 | nil=>cases hi:i.loaded <;> cases hc:JS I i.b (a+1) <;> simp[YR,ZG,hi,hc]
 | cons j is ih=>
   have b:ZG (j :: is)=ZG is+if j.loaded then 1 else 0:=by
    unfold ZG;cases h:j.loaded <;> simp[h]
   cases hj:j.loaded
   . simp only[Ac,YR,hj,Aj,Bt] at b ⊢
     rw[ih,b];rfl
   simp only[Ac,YR,hj,B8] at b ⊢;rw[ih,b,BG,show a+1+ZG is=a+(ZG is+1) from Z]
theorem ZAj (I:PImage) (a:Nat) (is:List PItem):(YR I a is).length<=is.length:=by
 induction is generalizing a with
 | nil=>simp[YR]
 | cons j is ih=>
   simp only[YR];cases j.loaded
   . simp only[Aj,Bt,Am];have:=ih a;omega
   simp only[B8,AE,Am];have:=ih (a+1)
   split <;> simp <;> omega
def VO (I:PImage) (B:Nat):List (PPos×PRec)->List (Nat×Nat)
 | []=>[]
 | x :: L=>YR I (VC B x.1.seg+x.1.off) x.2.items++VO I B L
theorem KAO (I:PImage) (B:Nat) (L:List (PPos×PRec)) (x:PPos×PRec):VO I B (L++[x])=VO I B L++YR I (VC B x.1.seg+x.1.off) x.2.items:=by
 induction L with
 | nil=>simp[VO]
 | cons y L ih=>simp only[Ac,VO,ih,BG]
theorem elemTold:ElemN prog 159 164 (.agg #[zz,zz]) 2 16:=ElemN.of underlying159 (by kernel_rfl) rfl Z
theorem YAD {m:Nat} {I:PImage} (h:ImageAt w base m F I) (b a:Nat) (c:b<I.bl.length) :
 cq 213 #[pq m,b,a] w (.bool (JS I b a)):=by
 have d:b<I.ol.length:=by rw[<- h.ok.1];exact c
 have f:=Zy h b c;have g:=ZAK h b c d;have i:JS I b a=(decide (I.bl[b]=(a:Int)) || decide (Xg I b=(a:Int))):=by unfold JS;rw[Yg c]
 rw[i];clear i h d;generalize I.bl[b]=x at *;generalize Xg I b=y at *;go_enter func213,ntmps213
 go_wp2_with (first
  | (refine f.mono ?_;clear f;rintro e w' ⟨rfl,rfl⟩)
  | (refine g.mono ?_;clear g;rintro e w' ⟨rfl,rfl⟩))
 all_goals
  go_ret;exact⟨VF (by rw[Bg];simp[*]),rfl⟩
end
def KAC (a:Nat):List PItem->List (Nat×Nat)
 | []=>[]
 | i :: is=>if i.loaded then (i.b,a+1) :: KAC (a+1) is else KAC a is
def KT (B:Nat):List (PPos×PRec)->List (Nat×Nat)
 | []=>[]
 | x :: L=>KAC (VC B x.1.seg+x.1.off) x.2.items++KT B L
theorem XAL (I:PImage) (a:Nat) (is:List PItem):YR I a is=(KAC a is).filter (fun x=>JS I x.1 x.2):=by
 induction is generalizing a with
 | nil=>rfl
 | cons i is ih=>
   unfold YR KAC;cases i.loaded
   . simp[ih]
   simp only[B8,Dg,ih];cases JS I i.b (a+1) <;> simp
theorem Kb (I:PImage) (B:Nat) (L:List (PPos×PRec)):VO I B L=(KT B L).filter (fun x=>JS I x.1 x.2):=by
 induction L with
 | nil=>rfl
 | cons x L ih=>simp only[VO,KT,DP,ih,XAL]
theorem Yt (B:Nat) (L M:List (PPos×PRec)):KT B (L++M)=KT B L++KT B M:=by
 induction L with
 | nil=>rfl
 | cons x L ih=>simp only[Ac,KT,ih,BG]
theorem YAQ (a:Nat) (is:List PItem) (i:PItem):KAC a (is++[i])=KAC a is++(if i.loaded then [(i.b,a+ZG is+1)] else []):=by
 induction is generalizing a with
 | nil=>cases h:i.loaded <;> simp[KAC,ZG,h]
 | cons j is ih=>
   have b:ZG (j :: is)=ZG is+if j.loaded then 1 else 0:=by
    unfold ZG;cases h:j.loaded <;> simp[h]
   unfold KAC;simp only[Ac];cases hj:j.loaded
   . simp only[hj,Aj,Bt] at b ⊢
     rw[ih,b];rfl
   simp only[hj,B8] at b ⊢;rw[ih,b,Ac,show a+1+ZG is=a+(ZG is+1) from Z]
theorem Yd (a:Nat) (is:List PItem):∀ x∈KAC a is,a+1<=x.2/\x.2<a+1+ZG is:=by
 induction is generalizing a with
 | nil=>simp[KAC]
 | cons j is ih=>
   have c:ZG (j :: is)=ZG is+if j.loaded then 1 else 0:=by
    unfold ZG;cases h:j.loaded <;> simp[h]
   unfold KAC;intro x b;cases hj:j.loaded
   . simp only[hj,Aj,Bt] at c b
     have:=ih _ x b;omega
   simp only[hj,B8,AM] at c b;rcases b with rfl | b
   . simp only;omega
   have:=ih _ x b;omega
def Chn (D:PDisk) (B:Nat):PPos->List PRec->PPos->Prop
 | p,[],q=>p=q
 | p,R :: Rs,q=>LiesR D B p R/\XT R.items=false/\Chn D B (R.behind p) Rs q
theorem Chn.ends {Rs:List PRec} (h:Chn D B p Rs q):p.seg=q.seg/\p.off+Rs.length<=q.off/\p.mount<=q.mount:=by
 induction Rs generalizing p with
 | nil=>obtain rfl:p=q:=h;exact⟨rfl,sq,AG _⟩
 | cons R Rs ih=>
   obtain⟨a,f,b⟩:=h;obtain⟨c,d,e⟩:=ih b;have:=a.mount;exact⟨c,by simp only[PRec.behind,Am] at d ⊢;omega,by simp only[PRec.behind] at e;omega⟩
theorem Chn.snoc {Rs:List PRec} {R:PRec} (h:Chn D B p Rs q) (a:LiesR D B q R) (b:XT R.items=false):Chn D B p (Rs++[R]) (R.behind q):=by
 induction Rs generalizing p with
 | nil=>obtain rfl:p=q:=h;exact⟨a,b,rfl⟩
 | cons S Rs ih=>obtain⟨c,d,e⟩:=h;exact⟨c,d,ih e⟩
theorem LiesR.keepD {R:PRec} (h:LiesR D B p R) (a:∀ x,VC B p.seg+p.off<=x->x<VC B p.seg+p.off+(1+R.blocks.length)->seg 64 D'.now x=seg 64 D.now x):LiesR D' B p R:=
 ⟨h.may,h.lsn,h.prev,h.mount,h.room,fun k b=>by rw[a _ Z Z];exact h.bytes k b⟩
theorem Chn.keepD {Rs:List PRec} (h:Chn D B p Rs q) (c:∀ x,VC B p.seg+p.off<=x->x<VC B p.seg+q.off->seg 64 D'.now x=seg 64 D.now x):Chn D' B p Rs q:=by
 induction Rs generalizing p with
 | nil=>exact h
 | cons R Rs ih=>
   obtain⟨e,f,d⟩:=h;have g:=d.ends;simp only[PRec.behind] at g;exact⟨e.keepD (fun x a b=>c x a Z),f,ih d (fun x a b=>c x (by simp only[PRec.behind] at a;omega) (by simp only[PRec.behind] at b;omega))⟩
theorem Chn.chained {Rs:List PRec} (h:Chn D B p Rs q) (a:q.off=24\/q.off<24/\Stale D (VC B q.seg+q.off) (24-q.off) q.lsn):Vs D B p Rs:=by
 induction Rs generalizing p with
 | nil=>obtain rfl:p=q:=h;exact a
 | cons R Rs ih=>obtain⟨b,c,d⟩:=h;exact⟨b,.inr ⟨c,ih d⟩⟩
theorem Chn.last {Rs:List PRec} {R:PRec} (h:Chn D B p Rs q) (a:LiesR D B q R) (b:XT R.items=true):Vs D B p (Rs++[R]):=by
 induction Rs generalizing p with
 | nil=>obtain rfl:p=q:=h;exact⟨a,.inl ⟨b,rfl⟩⟩
 | cons S Rs ih=>obtain⟨c,d,e⟩:=h;exact⟨c,.inr ⟨d,ih e⟩⟩
theorem Ve {Rs:List PRec} (h:Chn D B p Rs q) (R:PRec):placed p (Rs++[R])=placed p Rs++[(q,R)]:=by
 induction Rs generalizing p with
 | nil=>obtain rfl:p=q:=h;rfl
 | cons S Rs ih=>obtain⟨b,c,a⟩:=h;simp only[Ac,placed,ih a]
theorem Chn.place {Rs:List PRec} (h:Chn D B p Rs q) (x:PPos×PRec) (f:x∈placed p Rs):x.1.seg=q.seg/\p.off<=x.1.off/\LiesR D B x.1 x.2/\x.1.off+(1+x.2.blocks.length)<=q.off/\x.2∈Rs:=by
 induction Rs generalizing p with
 | nil=>simp[placed] at f
 | cons S Rs ih=>
   obtain⟨j,k,g⟩:=h;simp only[placed,AM] at f;have i:=g.ends;simp only[PRec.behind] at i;rcases f with rfl | f
   . exact⟨i.1,AG _,j,by simp only;omega,sq⟩
   obtain⟨a,b,c,d,e⟩:=ih g f;simp only[PRec.behind] at b;exact⟨a,Z,c,d,by simp[e]⟩
structure HeadOn (D:PDisk) (B s:Nat) (h:PPos):Prop where
 seg:h.seg=s
 off:h.off=1
 mount:1<=h.mount/\h.mount<=2147483647
 lsn:1<=h.lsn/\h.lsn<=2147483647
 prev:h.prev<=4294967295
 bytes:Go.Proofs.YtfedaknhecbehaaGreat.seg 64 D.now (VC B s)=Zv s h.mount h.lsn h.prev
theorem HeadOn.keepD {h:PPos} (a:HeadOn D B s h) (b:Go.Proofs.YtfedaknhecbehaaGreat.seg 64 D'.now (VC B s)=Go.Proofs.YtfedaknhecbehaaGreat.seg 64 D.now (VC B s)):HeadOn D' B s h:=
 ⟨a.seg,a.off,a.mount,a.lsn,a.prev,b.trans a.bytes⟩
def VBo (D:PDisk) (B:Nat) (h:PPos) (l:List PRec) (L:Nat):Prop:=∃ Rs x q,l=Rs++[x]/\Chn D B h Rs q/\LiesR D B q x/\XT x.items=true/\∀ k,q.off+(1+x.blocks.length)<=k->k<24->Stale D (VC B q.seg+k) (24-k) L
structure LogOn (B:Nat) (D:PDisk) (st:Nat->Nat) (W:PW) (H:Nat->PPos) (R:Nat->List PRec):Prop where
 free:∀ s,s<8->st s=0->∀ k,k<24->Stale D (VC B s+k) (24-k) W.pos.lsn
 here:st W.pos.seg≠0
 pos:W.pos.Ok
 off0:W.pos.off=0->R W.pos.seg=[]/\seg 64 D.now (VC B W.pos.seg)=List.replicate 64 0
 head:1<=W.pos.off->HeadOn D B W.pos.seg (H W.pos.seg)/\Chn D B (H W.pos.seg) (R W.pos.seg) W.pos
 rest:∀ k,W.pos.off<=k->k<24->Stale D (VC B W.pos.seg+k) (24-k) W.pos.lsn
 full:∀ s,s<8->st s≠0->s≠W.pos.seg->HeadOn D B s (H s)/\VBo D B (H s) (R s) W.pos.lsn
 own:∀ s,s<8->∀ x∈R s,∀ i∈x.items,i.loaded=true->i.b<B
 wait:∀ i∈W.items,i.k≠7/\(i.loaded=true->i.b<B)
 low:∀ s,s<8->∀ x∈R s,x.lsn<W.pos.lsn
 blk:∀ s,s<8->∀ x∈R s,∀ b∈x.blocks,VU b
 wblk:∀ b∈W.blocks,VU b
def RefTold (B:Nat) (st:Nat->Nat) (W:PW) (H:Nat->PPos) (R:Nat->List PRec) (b a:Nat):Prop:=
 (b,a)∈KAC (VC B W.pos.seg+XD W.pos.off 0-1) W.items\/∃ s,s<8/\st s≠0/\(b,a)∈KT B (placed (H s) (R s))
theorem LogOn.congr {st:Nat->Nat} {R:Nat->List PRec} (h:LogOn B D st W H R) (i:∀ x,6+4*pgs B<=x->seg 64 D'.now x=seg 64 D.now x):LogOn B D' st W H R:=by
 have d:∀ s x,VC B s<=x->seg 64 D'.now x=seg 64 D.now x:=fun s x j=>i x (by unfold VC at j;omega);refine⟨fun s a b k c=>(h.free s a b k c).keepD Z (AG _) (fun y f _=>d s y Z),h.here,h.pos,fun a=>⟨(h.off0 a).1,by rw[d W.pos.seg _ (AG _)];exact(h.off0 a).2⟩,fun a=>?_,fun k a b=>(h.rest k a b).keepD Z (AG _) (fun y f _=>d W.pos.seg y Z),fun s a b c=>?_,h.own,h.wait,h.low,h.blk,h.wblk⟩
 . obtain⟨f,g⟩:=h.head a
   have e:=f.seg;exact⟨f.keepD (d _ _ (AG _)),g.keepD (fun x a b=>d (H W.pos.seg).seg x Z)⟩
 obtain⟨f,Rs,x,q,g,l,m,n,o⟩:=h.full s a b c;exact⟨f.keepD (d _ _ (AG _)),Rs,x,q,g,l.keepD (fun x a b=>d (H s).seg x Z),m.keepD (fun x a b=>d q.seg x Z),n,fun k p r=>(o k p r).keepD Z (AG _) (fun y f _=>d q.seg y Z)⟩
theorem LogOn.emitted {st:Nat->Nat} {R:Nat->List PRec} (h:LogOn B D st W H R) (a5:Emitted B D us W D' us' W') (t:W.Ok)
 (E:D.now.length=D.n*64) (J:D.n=198+4*pgs B) (aj:W.pos.off<=23) (ak:W.pos.lsn<2147483647) :
 ∃ V Y,LogOn B D' st W' V Y/\∀ b a,RefTold B st W H R b a->RefTold B st W' V Y b a:=by
 rcases a5 with⟨l,rfl,rfl,rfl⟩ | ⟨l,f,al,u,a6,K,L,a7,rfl,rfl,rfl⟩
 . exact⟨H,R,h,fun _ _ h=>h⟩
 obtain⟨b1,b2,b3,b4,M⟩:=h.pos;obtain⟨e1,e2,e3,e4,e5,e6,e7,e8⟩:=K.same;have a8:=t.fit l;have a9:=Jl W.blocks t.full;obtain⟨o,N⟩:=ex (max W.pos.off 1);rw[<- N] at e4;rw[e4];obtain⟨m,a0⟩:=ex W.blocks.length;have am:o+1+m<=23:=by unfold XD at a8;omega
 -- the disk with a head
 have aa:f.now.length=f.n*64/\f.n=D.n/\∀ x,(x≠VC B W.pos.seg\/0<W.pos.off)->seg 64 f.now x=seg 64 D.now x:=by
  rcases K with⟨_,rfl,_⟩ | ⟨O,x,c,rfl,_⟩
  . exact⟨E,rfl,fun _ _=>rfl⟩
  have n:VC B W.pos.seg<D.n:=by rw[J];unfold VC;omega
  refine⟨Xh _ _ _ E n c.len,rfl,fun y hy=>?_⟩;rw[QX _ _ _ E n c.len,AL Z]
 obtain⟨d1,d2,d3⟩:=aa
 have ab:∃ v,(1<=W.pos.off->v=H W.pos.seg)/\HeadOn f B W.pos.seg v/\Chn f B v (R W.pos.seg) ⟨W.pos.seg,o,W.pos.lsn,W.pos.prev,W.pos.mount⟩:=by
  rcases K with⟨F,rfl,_⟩ | ⟨O,x,c,rfl,_⟩
  . obtain⟨z,A⟩:=h.head F
    exact⟨_,fun _=>rfl,z,by rw[N,Nat.max_eq_left F];exact A⟩
  have n:VC B W.pos.seg<D.n:=by rw[J];unfold VC;omega
  refine⟨⟨W.pos.seg,1,W.pos.lsn,W.pos.prev,W.pos.mount⟩,fun h=>Z,⟨rfl,rfl,M,b3,b4,?_⟩,?_⟩
  . rw[QX _ _ _ E n c.len,AP rfl,c.is,YAK]
  rw[(h.off0 O).1];show _=_;rw[N,O];rfl
 obtain⟨v,ac,a1,P⟩:=ab;have a2:=Xk f (VC B W.pos.seg+o) (u++W.blocks.flatten) (1+m) d1 (by rw[d2,J];unfold VC;omega) (by rw[AE,L.len,a9];omega);rw[<- a0];have G:∀ x,¬ (VC B W.pos.seg+o<=x/\x<VC B W.pos.seg+o+(1+m))->seg 64 (Ye f (VC B W.pos.seg+o) (u++W.blocks.flatten) (1+m)).now x=seg 64 f.now x:=fun x c=>by rw[a2.2,AL c]
 have C:∀ x,(x<VC B W.pos.seg\/VC B W.pos.seg+24<=x)->seg 64 (Ye f (VC B W.pos.seg+o) (u++W.blocks.flatten) (1+m)).now x=seg 64 D.now x:=fun x c=>by
  rw[G x Z,d3 x (.inl Z)]
 obtain⟨X,d⟩:∃ X:PRec,X=⟨W.pos.mount,W.pos.lsn,W.pos.prev,W.items,W.blocks⟩:=⟨_,rfl⟩
 have ad:X.May:=by
  rw[d];exact⟨M,b3,b4,by rcases hi:W.items with _ | _ <;> simp_all,t.few,t.may,t.many,t.full⟩
 have ae:LiesR (Ye f (VC B W.pos.seg+o) (u++W.blocks.flatten) (1+m)) B ⟨W.pos.seg,o,W.pos.lsn,W.pos.prev,W.pos.mount⟩ X:=by
  refine⟨ad,by rw[d],by rw[d],by rw[d];exact AG _,by rw[d];simp only;omega,fun k n=>?_⟩;have an:k<1+m:=by rw[d] at n;simp only at n;omega
  rw[a2.2,AP (by simp only;omega)];simp only;rw[show VC B W.pos.seg+o+k-(VC B W.pos.seg+o)=k from Z];rw[d];unfold PRec.bytes;simp only;rw[L.eq]
 have af:XT X.items=false:=by
  rw[d];unfold XT XR;rw[AX];intro a3;have:=Ck (p:=fun i:PItem=>i.k == 7) (xs:=W.items) (w:=a3);exact(h.wait _ (AQ a3)).1 (uq this)
 have a4:=(P.keepD (D':=Ye f (VC B W.pos.seg+o) (u++W.blocks.flatten) (1+m)) (fun x I g=>G x (by rw[a1.seg] at g;simp only at g;omega))).snoc ae af
 have ag:X.behind ⟨W.pos.seg,o,W.pos.lsn,W.pos.prev,W.pos.mount⟩=⟨W.pos.seg,o+1+m,W.pos.lsn+1,a6,W.pos.mount⟩:=by
  rw[d];unfold PRec.behind PRec.sum;simp only;rw[L.sm,Bf,a0]
 rw[ag] at a4;refine⟨fun s=>if s=W.pos.seg then v else H s,fun s=>if s=W.pos.seg then R W.pos.seg++[X] else R s,⟨?_,h.here,⟨b1,?_,?_,a7,M⟩,?_,?_,?_,?_,?_,sq,?_,?_,sq⟩,?_⟩
 . intro s j l k n
   have:s≠W.pos.seg:=fun e=>h.here (e ▸ l);exact(h.free s j l k n).keepD Z sq (fun y z A=>C y (by unfold VC at *;omega))
 . simp only;omega
 . simp only;omega
 . intro e;simp only at e;omega
 . intro _
   simp only[B8];exact⟨a1.keepD (G _ Z),a4⟩
 . intro k ah ai
   try simp only at ah ⊢
   exact(h.rest k Z ai).keepD Z sq (fun y z A=>by rw[G _ Z,d3 _ (.inl Z)])
 . intro s j l Q
   try simp only at Q
   simp only[AL Q];obtain⟨S,Rs,x,q,f2,f3,f4,f5,f6⟩:=h.full s j l Q;have T:=f3.ends;have ao:=f4.room;rw[S.seg] at T;exact⟨S.keepD (C _ (by unfold VC;omega)),Rs,x,q,f2,f3.keepD (fun y I g=>C _ (by rw[S.seg] at I g;unfold VC at *;omega)),f4.keepD (fun y I g=>C _ (by rw[<- T.1] at I g;unfold VC at *;omega)),f5,fun k k1 k2=>(f6 k k1 k2).keepD Z sq (fun y z A=>C y (by rw[<- T.1] at z A;unfold VC at *;omega))⟩
 . intro s j x c i hi U
   try simp only at c
   split at c
   . rename_i e
     rcases AD.1 c with c | c
     . exact h.own _ Z x c i hi U
     simp at c;subst c;rw[d] at hi;exact(h.wait i hi).2 U
   exact h.own s j x c i hi U
 . intro s j x c
   try simp only at c ⊢
   split at c
   . rcases AD.1 c with c | c
     . have:=h.low _ Z x c;omega
     simp at c;rw[c,d];simp only;omega
   have:=h.low s j x c;omega
 . intro s j x c b g
   try simp only at c
   split at c
   . rcases AD.1 c with c | c
     . exact h.blk _ Z x c b g
     simp at c;rw[c,d] at g;exact h.wblk b g
   exact h.blk s j x c b g
 intro b a r;right;rcases r with r | ⟨s,j,l,r⟩
 . refine⟨W.pos.seg,Z,h.here,?_⟩
   simp only[B8];rw[Ve P X,Yt];refine BQ _ ?_;unfold KT KT;rw[d];simp only[Ba]
   rwa [show VC B W.pos.seg+XD W.pos.off 0-1=VC B W.pos.seg+o by unfold XD;omega] at r
 refine⟨s,j,l,?_⟩
 try simp only
 split
 . rename_i e
   subst e;rw[Ve P X,Yt];refine BB _ ?_;by_cases F:1<=W.pos.off
   . rw[ac F];exact r
   rw[(h.off0 Z).1] at r;simp[placed,KT] at r
 exact r
theorem LogOn.st {st:Nat->Nat} {R:Nat->List PRec} (h:LogOn B D st W H R) (e:∀ s,s<8->(st' s=0↔st s=0)):LogOn B D st' W H R:=by
 have d:=h.pos.1;exact⟨fun s a b=>h.free s a ((e s a).1 b),fun b=>h.here ((e _ Z).1 b),h.pos,h.off0,h.head,h.rest,fun s a b=>h.full s a (fun c=>b ((e s a).2 c)),h.own,h.wait,h.low,h.blk,h.wblk⟩
theorem RefTold.st {st:Nat->Nat} {R:Nat->List PRec} (h:RefTold B st W H R b a) (e:∀ s,s<8->st s≠0->st' s≠0):RefTold B st' W H R b a:=
 h.imp id (fun⟨s,c,d,f⟩=>⟨s,c,e s c d,f⟩)
theorem LogOn.turned {st:Nat->Nat} {R:Nat->List PRec} (h:LogOn B D st W H R) (a0:Turned B D us W s D' us' W') (hs:s<8) (F:st s=0) (M:W.items=[]) (a1:W.blocks=[])
 (hn:D.now.length=D.n*64) (N:D.n=198+4*pgs B) (a2:1<=W.pos.off) (ab:W.pos.off<=23) (ac:W.pos.lsn<2147483647) :
 ∃ O P,LogOn B D' (fun k=>if k=s then 1 else st k) W' O P/\∀ b a,RefTold B st W H R b a->RefTold B (fun k=>if k=s then 1 else st k) W' O P b a:=by
 obtain⟨o,r,sum,z,Q,S,rfl,-,rfl⟩:=a0;obtain⟨b1,b2,b3,b4,G⟩:=h.pos;have ad:s≠W.pos.seg:=fun e=>h.here (e ▸ F);have T:=Xk D (VC B W.pos.seg+W.pos.off) o 1 hn (by rw[N];unfold VC;omega) (by rw[z.len];omega);have a3:=YN D (VC B W.pos.seg+W.pos.off) o 1;have A:VC B s<(Ye D (VC B W.pos.seg+W.pos.off) o 1).n:=by rw[a3.1,N];unfold VC;omega
 have I:∀ x,seg 64 ((Ye D (VC B W.pos.seg+W.pos.off) o 1).write (VC B s) r).now x=if x=VC B s then r else if x=VC B W.pos.seg+W.pos.off then o else seg 64 D.now x:=fun x=>by
  rw[QX _ _ _ T.1 A Q.len,T.2]
  split
  . rfl
  split
  . rename_i e
    rw[AP Z,show x-(VC B W.pos.seg+W.pos.off)=0 from Z];unfold seg;rw[Cg,DD,AH (by rw[z.len];omega)]
  rw[AL Z]
 have t:∀ x,x≠VC B s->x≠VC B W.pos.seg+W.pos.off->seg 64 ((Ye D (VC B W.pos.seg+W.pos.off) o 1).write (VC B s) r).now x=seg 64 D.now x:=fun x d g=>by rw[I,AL d,AL g]
 obtain⟨d,g⟩:=h.head a2;obtain⟨X,f⟩:∃ X:PRec,X=⟨W.pos.mount,W.pos.lsn,W.pos.prev,[⟨7,0,0,s⟩],[]⟩:=⟨_,rfl⟩
 have a4:X.May:=by
  rw[f];exact⟨G,b3,b4,AG _,sq,by intro i hi;simp at hi;subst hi;exact .inr (.inr (.inr (.inr ⟨rfl,rfl,rfl,(show s<=31 from Z)⟩))),rfl,sq⟩
 have a5:LiesR ((Ye D (VC B W.pos.seg+W.pos.off) o 1).write (VC B s) r) B W.pos X:=by
  refine⟨a4,by rw[f],by rw[f],by rw[f];exact AG _,by rw[f];simp only[Au];omega,fun k A=>?_⟩;obtain rfl:k=0:=by rw[f] at A;simp only[Au] at A;omega
  rw[I,AL (by unfold VC;omega),AP Z,f];unfold PRec.bytes seg;simp only[List.flatten_nil,Ba];rw[Cg,DD,<- z.eq,AH (by rw[z.len];omega)]
 have a6:XT X.items=true:=by rw[f];rfl
 have a7:=g.ends;rw[d.off,d.seg] at a7;have a8:=g.keepD (D':=(Ye D (VC B W.pos.seg+W.pos.off) o 1).write (VC B s) r) (fun x u l=>t x (by rw[d.seg] at u l;unfold VC at *;omega) (by rw[d.seg] at l;omega));refine⟨fun k=>if k=s then ⟨s,1,W.pos.lsn+1,sum,W.pos.mount⟩ else H k,fun k=>if k=s then [] else if k=W.pos.seg then R W.pos.seg++[X] else R k,⟨?_,sq,⟨by simp only;omega,sq,?_,S,G⟩,sq,?_,?_,?_,?_,by rw[show ({ W with pos:=(⟨s,1,W.pos.lsn+1,sum,W.pos.mount⟩:PPos) }:PW).items=[] from M];simp,?_,?_,by rw[show ({ W with pos:=(⟨s,1,W.pos.lsn+1,sum,W.pos.mount⟩:PPos) }:PW).blocks=[] from a1];simp⟩,?_⟩
 . intro k m n j hj
   try simp only at n
   split at n
   . omega
   rename_i e;have:k≠W.pos.seg:=fun e=>h.here (e ▸ n);exact(h.free k m n j hj).keepD Z sq (fun y d g=>t y (by unfold VC at *;omega) (by unfold VC at *;omega))
 . simp only;omega
 . intro _
   simp only[B8];refine⟨⟨rfl,rfl,G,by simp only;omega,S,?_⟩,rfl⟩;rw[I,AP rfl,Q.is,YAK]
 . intro k a9 aa
   try simp only at a9 ⊢
   exact(h.free s hs F k aa).keepD Z sq (fun y d g=>t y Z (by unfold VC at *;omega))
 . intro k m n J
   try simp only at J n
   rw[AL J] at n;simp only[AL J];by_cases e:k=W.pos.seg
   . subst e
     simp only[B8];exact⟨d.keepD (t _ (by unfold VC;omega) Z),_,X,W.pos,rfl,a8,a5,a6,fun k C K=>(h.rest k Z K).keepD Z sq (fun y d g=>t y (by unfold VC at *;omega) (by rw[f] at C;simp only[Au] at C;omega))⟩
   simp only[AL e];obtain⟨v,Rs,x,q,f2,U,V,f5,f6⟩:=h.full k m n e;have w:=U.ends;have ae:=V.room;rw[v.seg,v.off] at w;have E:∀ y,VC B k<=y->y<VC B k+24->seg 64 ((Ye D (VC B W.pos.seg+W.pos.off) o 1).write (VC B s) r).now y=seg 64 D.now y:=fun y d g=>t y (by unfold VC at *;omega) (by unfold VC at *;omega);exact⟨v.keepD (E _ (AG _) Z),Rs,x,q,f2,U.keepD (fun y u l=>E y (by rw[v.seg] at u;omega) (by rw[v.seg] at l;omega)),V.keepD (fun y u l=>E y (by rw[<- w.1] at u;omega) (by rw[<- w.1] at l;omega)),f5,fun j C K=>(f6 j C K).keepD Z sq (fun y d g=>E y (by rw[<- w.1] at d;omega) (by rw[<- w.1] at g;omega))⟩
 . intro k m x c i hi L
   try simp only at c
   split at c
   . simp at c
   split at c
   . rcases AD.1 c with c | c
     . exact h.own _ Z x c i hi L
     simp at c;subst c;rw[f] at hi;simp at hi;subst hi;cases L
   exact h.own k m x c i hi L
 . intro k m x c
   try simp only at c ⊢
   split at c
   . simp at c
   split at c
   . rcases AD.1 c with c | c
     . have:=h.low _ Z x c;omega
     simp at c;rw[c,f];simp only;omega
   have:=h.low k m x c;omega
 . intro k m x c b l
   try simp only at c
   split at c
   . simp at c
   split at c
   . rcases AD.1 c with c | c
     . exact h.blk _ Z x c b l
     simp at c;rw[c,f] at l;simp at l
   exact h.blk k m x c b l
 intro b a p;right;rcases p with p | ⟨k,m,n,p⟩
 . rw[M] at p
   simp[KAC] at p
 have Y:k≠s:=fun e=>n (e ▸ F);refine⟨k,m,by simp only[AL Y];exact n,?_⟩;simp only[AL Y]
 split
 . rename_i e
   subst e;rw[Ve g X,Yt];exact BB _ p
 exact p
def stOf (us:List (Nat×Nat)) (s:Nat):Nat:=(us.getD s (0,0)).1
theorem LogOn.added {lv U:List Nat} {i:PItem} {R:Nat->List PRec} (h:LogOn B D (stOf us) W H R) (V:Added B D us lv W i bs D' us' U W' a)
 (d:Cap D us W k j) (X:KO us W (ZM i)) (hj:j<=100000) (A:D.now.length=D.n*64) (v:D.n=198+4*pgs B) (hi:i.k≠7) (Y:i.loaded=true->i.b<B) (a0:i.loaded=true->VU bs) :
 ∃ g l,LogOn B D' (stOf us') W' g l/\(∀ b a,RefTold B (stOf us) W H R b a->RefTold B (stOf us') W' g l b a)/\(i.loaded=true->RefTold B (stOf us') W' g l i.b a):=by
 obtain⟨m,a1,rfl,I⟩:=V;have J:=d.ul;have a7:=d.lsn;have a2:=d.seg;have a8:ZM i<=1:=by unfold ZM;split <;> omega
 obtain⟨g,l,f,a3,a4⟩:∃ g l,LogOn B D' (stOf us') m g l/\(∀ b a,RefTold B (stOf us) W H R b a->RefTold B (stOf us') m g l b a)/\m.blocks.length=ZG m.items:=by
  rcases a1 with⟨r,rfl,rfl,rfl,rfl⟩ | ⟨K,r,p,rfl⟩ | ⟨K,r,rfl,L,C,E,p,M⟩
  . exact⟨H,R,h,fun _ _ h=>h,d.ok.many⟩
  . obtain⟨g,l,F,G⟩:=h.emitted p d.ok A v d.off Z
    obtain⟨w,y,-⟩:=p.facts d.ok
    have t:∀ s,stOf us' s=stOf us s:=fun s=>by
     rcases p with⟨_,_,rfl,_⟩ | ⟨_,L,m,N,O,_,_,_,_,rfl,_⟩
     . rfl
     exact VI _ _ _ _
    exact⟨g,l,F.st (fun s _=>by rw[t]),fun b a c=>(G b a c).st (fun s _ c=>by rw[t];exact c),by rw[w,y];rfl⟩
  obtain⟨a9,P⟩:=YW us (X K r);obtain⟨aa,ab,F,G⟩:=h.emitted p d.ok A v d.off Z;obtain⟨w,y,Q,-,-,e4,e5,e6,-,-,-,e7,-⟩:=p.facts d.ok;have a5:=(p.reads d.ok A v a2 d.off).1
  have S:1<=E.pos.off/\E.pos.off<=23:=by
   by_cases n:W.items=[]
   . have e:=e5 n
     have:Qa W=W.pos.off:=by unfold Qa;rw[AP n]
     rw[this] at r;have:22<=W.pos.off:=by unfold KP XD at r;omega
     have:=d.off;omega
   have e:=e6 n;have h9:=d.ok.fit n;have:Qa W=XD W.pos.off W.blocks.length:=by unfold Qa;rw[AL n]
   rw[e,this];unfold XD at *;omega
  obtain⟨g,l,h3,h4⟩:=F.turned M Z P w y a5 (by rw[e7];exact v) S.1 S.2 Z;obtain⟨N,hd,O,t1,t2,t3,t4,t5,t6⟩:=M
  have T:C.length=8/\∀ s,s<8->stOf C s=if s=YC us then 1 else stOf us s:=by
   rcases p with⟨_,_,rfl,_⟩ | ⟨_,L,m,N,O,_,_,_,_,rfl,_⟩
   . exact⟨by simp[J],fun s u=>VH _ _ _ _ Z⟩
   exact⟨by simp[J,YH],fun s u=>by unfold stOf;rw[VI];exact VH _ _ _ _ Z⟩
  have t:∀ s,s<8->(stOf us' s=0↔(fun k=>if k=YC us then 1 else stOf us k) s=0):=fun s u=>by
   have:stOf us' s=if s=E.pos.seg then 2 else stOf C s:=by
    rw[t5];unfold stOf;rw[VH _ _ _ _ (by simp[YH,T.1,Q];omega),VI]
   rw[this,T.2 s u];simp only
   split
   . rename_i e
     have:=h.here;rw[e,Q];have:W.pos.seg≠YC us:=fun e=>this (e ▸ P);rw[AL this];exact⟨Z,fun n=>absurd n h.here⟩
   rfl
  exact⟨g,l,h3.st t,fun b a c=>(h4 b a (G b a c)).st (fun s u c=>fun n=>c ((t s u).1 n)),by rw[t6];simp only;rw[w,y];rfl⟩
 refine⟨g,l,⟨f.free,f.here,f.pos,f.off0,f.head,f.rest,f.full,f.own,fun x c=>?_,f.low,f.blk,fun b o=>?_⟩,fun b a6 c=>(a3 b a6 c).imp (fun c=>?_) id,fun z=>.inl ?_⟩
 . rcases AD.1 c with c | c
   . exact f.wait x c
   simp at c;subst c;exact⟨hi,Y⟩
 . simp only at o
   split at o
   . rename_i z
     rcases AD.1 o with o | o
     . exact f.wblk b o
     simp at o;subst o;exact a0 z
   exact f.wblk b o
 . simp only
   rw[YAQ];exact BB _ c
 simp only;rw[YAQ,AP z];refine BQ _ ?_;rw[AP z,a4] at I;have:VC B m.pos.seg+XD m.pos.off 0-1+ZG m.items+1=a:=by rw[I];unfold XD;omega
 rw[this];simp
def KQ (I:PImage) (b a:Nat):Prop:=I.bl.getD b 0=(a:Nat)\/I.ol.getD b 0=(a:Nat)
def LogS (B:Nat) (S:PS):Prop:=∃ H R,LogOn B S.D (stOf S.us) S.W H R/\∀ b,b<B->∀ a:Nat,0<a->KQ S.I b a->RefTold B (stOf S.us) S.W H R b a
structure Dist (I:PImage):Prop where
 bb:∀ b c,0<I.bl.getD b 0->I.bl.getD b 0=I.bl.getD c 0->b=c
 oo:∀ b c,0<I.ol.getD b 0->I.ol.getD b 0=I.ol.getD c 0->b=c
 bo:∀ b c,0<I.bl.getD b 0->I.bl.getD b 0≠I.ol.getD c 0
theorem KM (h:l.length<=i):l.getD i 0=0:=by
 rw[AB,BF h];rfl
theorem JH (h:i<l.length):l.getD i 0=l[i]:=by
 rw[AB,AC h];rfl
theorem Jh (l:List Int) (i k:Nat) (v:Int) (h:i<l.length):(l.set i v).getD k 0=if k=i then v else l.getD k 0:=by
 rw[AB,BT]
 split
 . rename_i e
   subst e;simp[h]
 rename_i e;rw[AL (fun h=>e h.symm),<- AB]
theorem Wrote.logG (h:Wrote B S b bs S') (d:Good B S k j) (r:KO S.us S.W (ZM ⟨1,b,0,0⟩)) (y:j<=100000) (z:b<B) (A:VU bs) (C:LogS B S) (o:Dist S.I):LogS B S'/\Dist S'.I:=by
 obtain⟨D',us',O,W',a,s,rfl⟩:=h;obtain⟨H,R,D,t⟩:=C;obtain⟨E,F,G,u,I⟩:=D.added s d.cap r y d.now d.many sq (fun _=>z) (fun _=>A);obtain⟨P,Q,T,J,K⟩:=s.readsG d.cap r d.now d.many;obtain⟨L,U⟩:=K rfl;have V:=d.ol;have W:=d.bl;have X:0<a:=by have:=L.lo;omega
 have v:∀ x:Int,x = -1\/RefOk B S x->0<x->x≠(a:Nat):=by
  intro x m g;rcases m with rfl | rfl | ⟨_,hy⟩
  . omega
  . omega
  have:=(J _ hy).2.2 rfl;omega
 have M:∀ c,S.I.bl.getD c 0≠(a:Nat):=fun c e=>by
  by_cases i:c<S.I.bl.length
  . rw[JH i] at e
    exact v _ (.inr (d.brefs _ (AQ i))) Z e
  rw[KM Z] at e;omega
 have w:∀ c,S.I.ol.getD c 0≠(a:Nat):=fun c e=>by
  by_cases i:c<S.I.ol.length
  . rw[JH i] at e
    exact v _ (d.orefs _ (AQ i)) Z e
  rw[KM Z] at e;omega
 have n:=fun c=>Jh S.I.ol b c (a:Nat) Z;refine⟨⟨E,F,G,fun c i x m l=>?_⟩,⟨o.bb,fun c e g f=>?_,fun c e g=>?_⟩⟩
 . rcases l with l | l
   . exact u c x (t c i x m (.inl l))
   simp only at l;rw[n] at l
   split at l
   . rename_i e
     subst e;have:a=x:=Z;subst this;exact I rfl
   exact u c x (t c i x m (.inr l))
 . simp only at g f
   rw[n] at g f;rw[n] at f
   split at f
   . rename_i p
     split at f
     . rename_i N;rw[p,N]
     exact absurd f.symm (w e)
   rename_i p
   split at f
   . exact absurd f (w c)
   rw[AL p] at g;exact o.oo c e g f
 simp only at g ⊢;rw[n]
 split
 . exact M c
 exact o.bo c e g
theorem Wrote.log (h:Wrote B S b bs S') (a:Good B S k j) (c:k<=50) (d:j<=100000) (e:b<B) (f:VU bs) (g:LogS B S) (i:Dist S.I):LogS B S'/\Dist S'.I:=
 Wrote.logG h a (a.cap.frees c (by unfold ZM;split <;> omega)) d e f g i
theorem Marked.logG (h:Marked B S e S') (g:Good B S k j) (o:KO S.us S.W (ZM ⟨3,0,0,e⟩)) (z:j<=100000) (A:1<=e/\e<=j+1) (C:LogS B S) (n:Dist S.I):LogS B S'/\Dist S'.I:=by
 obtain⟨D,E,W,F,a,X,G,Y,bd,od,p,w,rfl⟩:=h;have I:PItem.May ⟨3,0,0,e⟩:=.inr (.inr (.inl ⟨rfl,rfl,rfl,A.1,by simp only;omega⟩));have r:=g.cap.addedG o I (fun h=>by cases h) p;obtain⟨H,a0,J,K⟩:=C;obtain⟨a1,a2,L,M,-⟩:=J.added p g.cap o z g.now g.many sq (fun h=>by cases h) (fun h=>by cases h);obtain⟨N,O,-⟩:=p.readsG g.cap o g.now g.many;have a3:=r.lsn;obtain⟨P,Q,R,T⟩:=L.emitted w r.ok N (O.trans g.many) r.off Z
 have y:∀ s,stOf G s=stOf E s:=fun s=>by
  rcases w with⟨_,_,rfl,_⟩ | ⟨_,D,F,rs,a4,_,_,_,_,rfl,_⟩
  . rfl
  exact VI _ _ _ _
 have a5:=g.ol;have a6:=g.bl;have U:S.I.bl.length=S.I.ol.length:=Z
 have t:∀ c,(Xv S.I.bl S.I.ol S.I.ol.length).getD c 0=if S.I.ol.getD c 0 = -1 then S.I.bl.getD c 0 else S.I.ol.getD c 0:=fun c=>by
  rw[Vn U];by_cases m:c<S.I.ol.length
  . rw[JH (by simp;omega),List.getElem_zipWith,JH m,JH Z]
  rw[KM (by simp;omega),KM (l:=S.I.ol) Z,KM (l:=S.I.bl) Z];simp
 have u:∀ c,(Ql S.I.ol S.I.ol.length).getD c 0<=0:=fun c=>by
  rw[VP];by_cases m:c<S.I.ol.length
  . rw[JH (uq m)];simp
  rw[KM (by simp;omega)];omega
 refine⟨⟨P,Q,(R.st (fun s _=>by rw[y])).congr (fun x _=>rfl),fun c m x V i=>?_⟩,⟨fun c f d b=>?_,fun c f d b=>?_,fun c f d b=>?_⟩⟩
 . refine(T c x (M c x (K c m x V ?_))).st (fun s _ h=>by rw[y];exact h)
   rcases i with i | i
   . simp only at i
     rw[t] at i
     split at i
     . exact .inl i
     exact .inr i
   have:=u c;simp only at i;omega
 . simp only at d b
   rw[t] at d b;rw[t] at b
   split at b
   . rename_i v
     rw[AP v] at d
     split at b
     . exact n.bb c f d b
     exact absurd b (n.bo c f d)
   rename_i v;rw[AL v] at d
   split at b
   . exact absurd b.symm (n.bo f c Z)
   exact n.oo c f d b
 . have:=u c;simp only at d;omega
 have:=u f;simp only at d b;omega
theorem Marked.log (h:Marked B S e S') (a:Good B S k j) (b:k<=50) (c:j<=100000) (d:1<=e/\e<=j+1) (f:LogS B S) (g:Dist S.I):LogS B S'/\Dist S'.I:=
 Marked.logG h a (a.cap.frees b (by unfold ZM;split <;> omega)) c d f g
theorem LogOn.begins {st:Nat->Nat} {R:Nat->List PRec} (h:LogOn B D st W H R) (sg:Nat) (n:sg<8) (o:st sg≠0) :
 ∃ p0 b0,Begins D B sg p0 b0 (R sg)/\placed p0 (R sg)=placed (H sg) (R sg)/\(R sg).length<=24/\(∀ x∈placed (H sg) (R sg),x.1.seg=sg/\x.1.off<=24/\x.2.May/\x.1.off+(1+x.2.blocks.length)<=24/\x.2∈R sg):=by
 by_cases e:sg=W.pos.seg
 . subst e
   by_cases p:W.pos.off=0
   . obtain⟨g,i⟩:=h.off0 p
     rw[g];exact⟨⟨W.pos.seg,0,0,0,0⟩,false,.inr ⟨rfl,rfl,rfl,i⟩,rfl,sq,by simp[placed]⟩
   obtain⟨g,i⟩:=h.head Z;have w:=h.pos.2.1;have k:=i.ends
   have r:W.pos.off=24\/W.pos.off<24/\Stale D (VC B W.pos.seg+W.pos.off) (24-W.pos.off) W.pos.lsn:=by
    by_cases s:W.pos.off=24
    . exact .inl s
    exact .inr ⟨Z,h.rest _ (AG _) Z⟩
   refine⟨H W.pos.seg,true,.inl ⟨rfl,g.seg,g.off,g.mount,g.lsn,g.prev,g.bytes,i.chained r⟩,rfl,by rw[g.off] at k;omega,fun x t=>?_⟩;obtain⟨a,b,c,d,f⟩:=i.place x t;have:=c.room;exact⟨a,Z,c.may,Z,f⟩
 obtain⟨g,Rs,x,q,i,l,m,u,z⟩:=h.full sg n o e;have k:=l.ends;have v:=m.room;rw[g.seg,g.off] at k;rw[i];refine⟨H sg,true,.inl ⟨rfl,g.seg,g.off,g.mount,g.lsn,g.prev,g.bytes,l.last m u⟩,rfl,by rw[AE,Al];omega,fun y j=>?_⟩;rw[Ve l] at j;rcases AD.1 j with j | j
 . obtain⟨a,b,c,d,f⟩:=l.place y j
   have:=c.room;exact⟨by rw[a,<- k.1],Z,c.may,Z,BB _ f⟩
 simp at j;subst j;exact⟨k.1.symm,by simp only;omega,m.may,v,sq⟩
theorem XAl (a:Nat) (is:List PItem):∀ x∈KAC a is,∃ i∈is,i.loaded=true/\x.1=i.b:=by
 induction is generalizing a with
 | nil=>simp[KAC]
 | cons i is ih=>
   unfold KAC;intro x b
   split at b
   . rename_i d
     rcases AM.1 b with rfl | b
     . exact⟨i,sq,d,rfl⟩
     obtain⟨j,c,h⟩:=ih _ x b;exact⟨j,by simp[c],h⟩
   obtain⟨j,c,h⟩:=ih _ x b;exact⟨j,by simp[c],h⟩
theorem KAh {L:List (PPos×PRec)} {q:Nat×Nat} (h:q∈KT B L):∃ x∈L,q∈KAC (VC B x.1.seg+x.1.off) x.2.items:=by
 induction L with
 | nil=>simp[KT] at h
 | cons x L ih=>
   simp only[KT,AD] at h;rcases h with h | h
   . exact⟨x,sq,h⟩
   obtain⟨y,a,h⟩:=ih h;exact⟨y,by simp[a],h⟩
theorem YBb (a:Nat) (is:List PItem):(KAC a is).Pairwise (fun x y=>x.2<y.2):=by
 induction is generalizing a with
 | nil=>simp[KAC]
 | cons i is ih=>
   unfold KAC
   split
   . rw[List.pairwise_cons]
     refine⟨fun y b=>?_,ih _⟩;have:=Yd _ _ y b;simp only;omega
   exact ih _
theorem VBi (B:Nat) (p:PPos) (Rs:List PRec) (h:∀ R∈Rs,R.blocks.length=ZG R.items):(KT B (placed p Rs)).Pairwise (fun x y=>x.2<y.2)/\∀ x∈KT B (placed p Rs),VC B p.seg+p.off<x.2:=by
 induction Rs generalizing p with
 | nil=>simp[placed,KT]
 | cons R Rs ih=>
   obtain⟨d,c⟩:=ih (R.behind p) (fun S e=>h S (by simp[e]));have i:=h R sq;simp only[placed,KT];refine⟨List.pairwise_append.2 ⟨YBb _ _,d,fun x a y f=>?_⟩,fun x a=>?_⟩
   . have g:=Yd _ _ x a
     have b:=c y f;simp only[PRec.behind] at b;omega
   rcases AD.1 a with a | a
   . have g:=Yd _ _ x a
     omega
   have b:=c x a;simp only[PRec.behind] at b;omega
theorem LogOn.told_in {st:Nat->Nat} {R:Nat->List PRec} (h:LogOn B D st W H R) (s:Nat) (a:s<8) (c:st s≠0) (q:Nat×Nat) (d:q∈KT B (placed (H s) (R s))):q.1<B/\VC B s<q.2/\q.2<VC B s+24:=by
 obtain⟨p0,b0,-,-,n,e⟩:=h.begins s a c;obtain⟨x,f,b⟩:=KAh d;obtain⟨g,o,j,p,k⟩:=e x f;obtain⟨i,hi,l,r⟩:=XAl _ _ q b;have t:=h.own s a x.2 k i hi l;have m:=Yd _ _ q b;have u:=j.many;rw[g] at m;omega
theorem XAm (a:List UInt8) (b:List (List UInt8)) (c:a.length=64) (i:Nat):seg 64 (a++b.flatten) (1+i)=seg 64 b.flatten i:=by
 unfold seg;rw[CJ,BM Z,Ad]
 congr 2
 omega
theorem LiesR.stale {R:PRec} (h:LiesR D B p R) (c:R.lsn<L) (d:∀ b∈R.blocks,VU b) (k:Nat) (f:p.off<=k) (g:k<p.off+(1+R.blocks.length)):Stale D (VC B p.seg+k) (24-k) L:=by
 by_cases e:k=p.off
 . subst e
   exact .inr ⟨R,h.may,c,by have:=h.room;omega,h.bytes⟩
 left;obtain⟨i,rfl⟩:∃ i,k=p.off+(1+i):=⟨k-p.off-1,Z⟩;have a:=h.bytes (1+i) Z;have j:R.blocks.length<=6:=by rw[h.may.many];exact AA (ZL _) h.may.few
 unfold PRec.bytes at a;rw[XAm _ _ (JV _ _ _ _ _ (by have:=h.may.few;omega)),Vz R.blocks h.may.full i Z] at a;rw[<- Bf,a];exact d _ (AQ _)
theorem Chn.stale {Rs:List PRec} (h:Chn D B p Rs q) (c:∀ R∈Rs,R.lsn<L) (d:∀ R∈Rs,∀ b∈R.blocks,VU b) (k:Nat) (e:p.off<=k) (j:k<q.off):Stale D (VC B p.seg+k) (24-k) L:=by
 induction Rs generalizing p with
 | nil=>obtain rfl:p=q:=h;omega
 | cons R Rs ih=>
   obtain⟨f,l,g⟩:=h;by_cases i:k<p.off+(1+R.blocks.length)
   . exact f.stale (c R sq) (d R sq) k e i
   exact ih (p:=R.behind p) g (fun S a=>c S (by simp[a])) (fun S a=>d S (by simp[a])) (by simp only[PRec.behind];omega)
theorem ZBH (a b c d:Nat):VU (Zv a b c d):=by
 rintro⟨_,h⟩;unfold Zv Vk XY at h;simp[VBB,fields,le] at h
theorem LogOn.release {st:Nat->Nat} {R:Nat->List PRec} (h:LogOn B D st W H R) (e:∀ s,s<8->st' s=st s\/(s≠W.pos.seg/\st s≠0/\st' s=0)):LogOn B D st' W H R:=by
 have A:=h.pos.1;refine⟨fun s c i k m=>?_,fun i=>?_,h.pos,h.off0,h.head,h.rest,fun s c i t=>?_,h.own,h.wait,h.low,h.blk,h.wblk⟩
 . rcases e s c with f | ⟨f,j,_⟩
   . exact h.free s c Z k m
   obtain⟨g,Rs,x,q,n,o,u,C,v⟩:=h.full s c j f;have l:=o.ends;rw[g.seg,g.off] at l;have p:∀ a∈Rs++[x],a.lsn<W.pos.lsn:=fun a d=>h.low s c a (by rw[n];exact d);have r:∀ a∈Rs++[x],∀ b∈a.blocks,VU b:=fun a d=>h.blk s c a (by rw[n];exact d);by_cases w:k=0
   . subst w
     left;have:=g.bytes;rw[BV,this];exact ZBH _ _ _ _
   by_cases y:k<q.off
   . have:=o.stale (fun a d=>p a (by simp[d])) (fun a d=>r a (by simp[d])) k (by rw[g.off];omega) y
     rwa [g.seg] at this
   by_cases z:k<q.off+(1+x.blocks.length)
   . have:=u.stale (p x sq) (r x sq) k Z z
     rwa [<- l.1] at this
   have:=v k Z m
   rwa [<- l.1] at this
 . rcases e W.pos.seg Z with f | ⟨f,_⟩
   . exact h.here Z
   exact f rfl
 rcases e s c with f | ⟨_,_,j⟩
 . exact h.full s c Z t
 exact absurd j i