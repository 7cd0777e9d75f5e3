/- Lemmas of the proof, with their conditions. -/
import Derived.Test.YtfedaknhecbehaaGreatM46
namespace Go.Proofs.YtfedaknhecbehaaGreat
open Tryz Go.RowKit Go.Shelf
set_option linter.all false
set_option maxHeartbeats 16000000
set_option maxRecDepth 100000
theorem YBX {P X:World->Nat->Nat->Nat->Prop} {G:Prop} (f:(∀ a b c d,P a b c d->X a b c d)->G) (r:∀ a b c d,P a b c d->X a b c d):G:=f r
theorem YBP {b:Nat} (cs:List Value) (a:cs.length=5) (c:∀ u∈cs,u.oneCell'=true) {W:World} (h:W.there b 0 5):(Instr.storeAt 95 (.pointer (some b)) (.agg cs.toArray)).run prog W=.ok () (W.setCells b 0 cs):=
 Da W b 0 95 cs.toArray (by simpa [a] using h) (by rw[Ay,a];kernel_rfl) (DC c)
theorem KAh (x0 x1 x2 x3:Int) (w:World) :
 cr 8 #[ii x0,ii x1,ii x2,ii x3] w (.bool true):=by
 have dd:=VAY x0 w;have de:=fun W B h1 h2=>Yw W B h1 h2;obtain⟨J,df,fg⟩:∃ q:Nat,x1 % 16=(q:Int)/\q<16:=⟨(x1 % 16).toNat,Z,Z⟩;obtain⟨qp,dg,fh⟩:∃ q:Nat,x2 % 1000=(q:Int)/\q<1000:=⟨(x2 % 1000).toNat,Z,Z⟩;obtain⟨qe,dh,fi⟩:∃ q:Nat,x3 % 9=(q:Int)/\q<9:=⟨(x3 % 9).toNat,Z,Z⟩;have di:∀ W,cq 25 #[ii x1,ii 16] W J:=fun W=>by rw[<- df];exact VV x1 16 W Z Z
 have bt:∀ W,cq 25 #[ii x2,ii 1000] W qp:=fun W=>by rw[<- dg];exact VV x2 1000 W Z Z
 have dj:∀ W,cq 25 #[ii x3,ii 9] W qe:=fun W=>by rw[<- dh];exact VV x3 9 W Z Z
 clear df dg dh;go_enter func8,ntmps8
 go_wp2_with (first
  | (go_at_call 42
     refine dd.mono ?_;clear dd;rintro e w1 ⟨B,rfl,e3,bu,dk,dl⟩;have bm:=Blk.new w1 28 #[(B:Nat),ii 8,ii 24];have dm:kz w (w1.alloc (.cells #[(B:Nat),ii 8,ii 24] 28)):=dl.alloc _;have dn:=de (w1.alloc (.cells #[(B:Nat),ii 8,ii 24] 28)) B bu Z
     clear de e3)
  | (go_at_call 11
     refine dn.mono ?_;clear dn;rintro e w2 ⟨t,d,s,F,D,rfl,bv,dp⟩;have dq:=ZB dp;clear dp;obtain⟨mm,xx,bw,dr,ds,_,_,bx⟩:=id bv;have ac:kz w2 w2.drew:=kq.drew;have t2:∀ W,kz w2 W->cl W (aq t 2) (pq s):=fun W i=>uq ((bw.kO i).cell 2)
     have bz:Calls prog 43 #[pq s,ii ((1+J:Nat):Int)] w2.drew _:=KBF w2.drew _ s d F B (PS.fresh B D) (dr.kO ac) (by simp[PS.fresh]) (1+J) Z Z rfl (by simp[PS.fresh]) (AB bx.size ac.size);simp only[Av] at bz;have e4:=bw.lt))
 refine ZT (fun w'=>cl w' (aq t 2) (pq s)) 7 [[0,1,2,3,4],[5,6]] (t2 _ ac) ?_;simp only[PI];iterate 5 refine wG ?_
 refine JB rq fun K p=>?_;go_wp2_with (refine(di _).mono ?_;clear di;rintro e w' ⟨rfl,rfl⟩);refine p _ _ (t2 _ ac) ?_
 iterate 1 refine wG ?_
 refine VB ?_
 go_wp2_with (first
  | (go_at_call 25;refine(dj _).mono ?_;clear dj;rintro e w' ⟨rfl,rfl⟩)
  | (go_at_call 43
     refine bz.mono ?_;clear bz;rintro e w3 ⟨r,x,Fx,rfl,hr,O,bn⟩;have dt:=ac.size;replace O:=ac.tO O;replace bn:∀ y∈YJ r F Fx,y∈F\/w2.heap.size<=y:=fun y m=>(bn y m).imp id (fun ad=>AB dt ad);have az:=LawSt.new bv hr O bn;have du:=(bm.kO bx).kO O;obtain⟨e5,e6,e7⟩:=XD du
     have dv:=QAW B bu Z w3)
  | (go_at_call 44
     refine dv.mono ?_;clear dv;rintro e w4 ⟨c2,ae,rfl,b0,a3⟩))
 have dw:=az.rep.lt;have e8:=az.lt;have c4:=b0.lt;have dx:=az.kept.size
 have dy:SSt (w1.alloc (.cells #[(B:Nat),ii 8,ii 24] 28)) w4 B t r s d x c2 w3.heap.size F Fx ae ⟨PS.fresh B D,0+1,QD (1+J)⟩ (PIdl.new B):=by
  refine⟨az.kO a3,b0,fun y m n=>?_,fun n=>?_,dx⟩
  . have:=dw y m;have:=(c4 y n).1;omega
  have:=(c4 _ n).1;omega
 have dz:Hid (SpS B 0 (PS.fresh B D) (PIdl.new B)):=ZB (SpS.first ds (ZA dq));obtain⟨gc,e0⟩:=ex w1.heap.size;rw[<- e0] at bm ⊢;generalize e9:w1.alloc (.cells #[(B:Nat),ii 8,ii 24] 28)=wA at *;have ea:∀ W,kz wA W->cl W gc (B:Nat):=fun W i=>(XD (bm.kO i)).1;generalize PS.fresh B D=S0 at *;generalize PIdl.new B=I0 at *;generalize w3.heap.size=ib at *;clear e9 e0 dw e8 c4 dx az b0 bm du a3 O bx dl bn hr t2 ac dt e5 e6 e7 bv bw dr e4 ds dq;have eb:B<=64:=Z
 generalize IntKind.i64.wrap (1+((J:Nat):Int))=z40;go_loopw [15] (fun kv wr=>∃ (k:Nat) (Fs Fx ae:List Nat) (S:PS) (I:PIdl),kv=.int .i64 (k:Nat)/\SSt wA wr B t r s d x c2 ib Fs Fx ae ⟨S,k+1,QD (1+J)⟩ I/\Hid (SpS B k S I)) (fun kv _=>300-(intOf kv).toNat)
 case atStart=>exact⟨0,F,Fx,ae,S0,I0,rfl,dy,dz⟩
 clear dy dz;obtain⟨k,Fs,Fx,ae,S,I,rfl,ay,X⟩:=hrel;have fj:=(ZA X).few;have ec:=(ZA X).seq
 have fk:I.ep<=1000:=by
  have h1:=(ZA X).like.ep;have h2:=(ZA X).well.good.epoch;omega
 have fl:((k:Nat):Int)<300:=Z
 have P:∀ W,kz wr W->cl W gc (B:Nat):=fun W i=>ea W (ay.kept.tO i)
 have ed:∀ W,kz wr W->cl W (aq c2 2) I.ep:=fun W i=>by
  obtain⟨fm,ov,bs,os,b0⟩:=(ay.kO i).dev;exact b0.cells.2.2.1
 have fn:∀ W,kz wr W->cl W (aq t 2) (pq s):=fun W i=>(ay.kO i).law.cells.2;obtain⟨b,hb,ee⟩:∃ b:Nat,((qp:Int)+5*(k:Int)) % (B:Nat)=(b:Int)/\b<B:=⟨(((qp:Int)+5*(k:Int)) % (B:Nat)).toNat,by have:=DW ((qp:Int)+5*(k:Int)) (show ((B:Nat):Int)≠0 from Z);omega,by have:=DW ((qp:Int)+5*(k:Int)) (show ((B:Nat):Int)≠0 from Z);have:=Dh ((qp:Int)+5*(k:Int)) (show (0:Int)<((B:Nat):Int) from Z);omega⟩;have bo:∀ W,cq 25 #[ii ((qp:Int)+5*(k:Int)),(B:Nat)] W b:=fun W=>by rw[<- hb];exact VV _ (B:Nat) W Z Z
 clear hb;have b1:=fun W=>YAb (k:Nat) W;have ef:IntKind.i64.wrap (5*((k:Nat):Int))=5*(k:Int):=by rw[AI];omega
 have eg:IntKind.i64.wrap ((qp:Int)+5*(k:Int))=(qp:Int)+5*(k:Int):=by rw[AI];omega
 have fo:=ZB bu;have fp:=ZB ec;go_wp2_with fail;refine ZR (fun w'=>cl w' gc (B:Nat)) 12 (.held 0 (.held 2 (.held 3 (.held 5 (.held 6 (.held 8 (.two 1 (.held 4 (.two 7 (.two 9 (.held 10 (.loud 11 .nil)) 11 (.loud 9 (.held 10 .nil))) 11 (.loud 7 (.loud 9 (.held 10 .nil))))) 11 (.loud 1 (.held 4 (.loud 7 (.loud 9 (.held 10 .nil)))))))))))) (P _ kq.drew) ?_;simp only[RT.pick,PJ];iterate 6 refine wW ?_
 refine @YBX (fun W v l Q=>kz wr W/\wr.heap.size<=v/\Blk W v 95 #[zz,zz,zz,zz,zn]/\Rd W (some (aq l 0)) 64 (bys (XY (k:Nat)))/\64<=Q/\l≠v/\wr.heap.size<=l/\l<W.heap.size) ?X1 _ (fun bp=>?_) ?_;rotate_left
 . have c:kz wr wr.drew:=kq.drew
   generalize wr.drew=V0 at c ⊢;refine wpR_two ?_ ?_
   . refine wpR_loud rq fun K p=>?_
     go_wp2_with (refine(bt _).mono ?_;rintro e bq ⟨rfl,rfl⟩);refine p _ _ (P _ c) ?_
     iterate 1 refine wW ?_
     refine wpR_two ?_ ?_
     . refine wpR_loud rq fun K p=>?_
       go_wp2_with (refine(bo _).mono ?_;rintro e bq ⟨rfl,rfl⟩);refine p _ _ (P _ c) ?_
       try simp only[Act.put,PU]
       refine wpR_two ?_ ?_
       . refine wpR_loud rq fun K p=>?_
         go_wp2_with (refine(b1 _).mono ?_;rintro e a5 ⟨u,rfl,C,h⟩);obtain⟨l,Q,rfl,a6,_⟩:=YD C Z;have R:=Rd.of_own C;have a0:=own_mem C (g:=l) (by simp[Value.ownBlock]);have a7:wr.heap.size<=l:=AB c.size a0.1;have T:=a0.2;replace c:=c.tO h;clear h C;refine p _ _ (P _ c) ?_
         iterate 1 refine wW ?_
         refine wpR_loud rq fun K p=>?_;go_wp2_with fail;have j:=Blk.new a5 95 #[zz,zz,zz,zz,zn];have h:=(Keep.refl [] a5).alloc (.cells #[zz,zz,zz,zz,zn] 95);have Y:wr.heap.size<=a5.heap.size:=c.size;have a4:l≠a5.heap.size:=Z
         generalize a5.alloc (.cells #[zz,zz,zz,zz,zn] 95)=af at j h ⊢;generalize a5.heap.size=v at j Y a4 ⊢;replace c:=c.tO h;replace R:=R.keep h;replace T:=h.lt T;clear h;refine p _ _ (P _ c) ?_
         try simp only[Act.put,PU]
         refine wpR_nil ?_;exact bp af v l Q ⟨c,Y,j,R,a6,a4,a7,T⟩
       refine wpR_loud rq fun K p=>?_
       go_wp2_with fail;have j:=Blk.new V0 95 #[zz,zz,zz,zz,zn];have h:=(Keep.refl [] V0).alloc (.cells #[zz,zz,zz,zz,zn] 95);have Y:wr.heap.size<=V0.heap.size:=c.size;generalize V0.alloc (.cells #[zz,zz,zz,zz,zn] 95)=a5 at j h ⊢;generalize V0.heap.size=v at j Y ⊢;replace c:=c.tO h;clear h;refine p _ _ (P _ c) ?_
       try simp only[Act.put,PU]
       refine wpR_loud rq fun K p=>?_;go_wp2_with (refine(b1 _).mono ?_;rintro e af ⟨u,rfl,C,h⟩);obtain⟨l,Q,rfl,a6,_⟩:=YD C Z;have R:=Rd.of_own C;have a0:=own_mem C (g:=l) (by simp[Value.ownBlock]);have a7:wr.heap.size<=l:=AB c.size a0.1;have T:=a0.2;have a4:l≠v:=by have:=j.lt;omega
       replace c:=c.tO h;replace j:=j.kO h;clear h C;refine p _ _ (P _ c) ?_
       iterate 1 refine wW ?_
       refine wpR_nil ?_;exact bp af v l Q ⟨c,Y,j,R,a6,a4,a7,T⟩
     refine wpR_loud rq fun K p=>?_
     go_wp2_with fail;have j:=Blk.new V0 95 #[zz,zz,zz,zz,zn];have h:=(Keep.refl [] V0).alloc (.cells #[zz,zz,zz,zz,zn] 95);have Y:wr.heap.size<=V0.heap.size:=c.size;generalize V0.alloc (.cells #[zz,zz,zz,zz,zn] 95)=a5 at j h ⊢;generalize V0.heap.size=v at j Y ⊢;replace c:=c.tO h;clear h;refine p _ _ (P _ c) ?_
     try simp only[Act.put,PU]
     refine wpR_loud rq fun K p=>?_;go_wp2_with (refine(bo _).mono ?_;rintro e bq ⟨rfl,rfl⟩);refine p _ _ (P _ c) ?_
     try simp only[Act.put,PU]
     refine wpR_loud rq fun K p=>?_;go_wp2_with (refine(b1 _).mono ?_;rintro e af ⟨u,rfl,C,h⟩);obtain⟨l,Q,rfl,a6,_⟩:=YD C Z;have R:=Rd.of_own C;have a0:=own_mem C (g:=l) (by simp[Value.ownBlock]);have a7:wr.heap.size<=l:=AB c.size a0.1;have T:=a0.2;have a4:l≠v:=by have:=j.lt;omega
     replace c:=c.tO h;replace j:=j.kO h;clear h C;refine p _ _ (P _ c) ?_
     iterate 1 refine wW ?_
     refine wpR_nil ?_;exact bp af v l Q ⟨c,Y,j,R,a6,a4,a7,T⟩
   refine wpR_loud rq fun K p=>?_
   go_wp2_with fail;have j:=Blk.new V0 95 #[zz,zz,zz,zz,zn];have h:=(Keep.refl [] V0).alloc (.cells #[zz,zz,zz,zz,zn] 95);have Y:wr.heap.size<=V0.heap.size:=c.size;generalize V0.alloc (.cells #[zz,zz,zz,zz,zn] 95)=a5 at j h ⊢;generalize V0.heap.size=v at j Y ⊢;replace c:=c.tO h;clear h;refine p _ _ (P _ c) ?_
   try simp only[Act.put,PU]
   refine wpR_loud rq fun K p=>?_;go_wp2_with (refine(bt _).mono ?_;rintro e bq ⟨rfl,rfl⟩);refine p _ _ (P _ c) ?_
   iterate 1 refine wW ?_
   refine wpR_loud rq fun K p=>?_;go_wp2_with (refine(bo _).mono ?_;rintro e bq ⟨rfl,rfl⟩);refine p _ _ (P _ c) ?_
   try simp only[Act.put,PU]
   refine wpR_loud rq fun K p=>?_;go_wp2_with (refine(b1 _).mono ?_;rintro e af ⟨u,rfl,C,h⟩);obtain⟨l,Q,rfl,a6,_⟩:=YD C Z;have R:=Rd.of_own C;have a0:=own_mem C (g:=l) (by simp[Value.ownBlock]);have a7:wr.heap.size<=l:=AB c.size a0.1;have T:=a0.2;have a4:l≠v:=by have:=j.lt;omega
   replace c:=c.tO h;replace j:=j.kO h;clear h C;refine p _ _ (P _ c) ?_
   iterate 1 refine wW ?_
   refine wpR_nil ?_;exact bp af v l Q ⟨c,Y,j,R,a6,a4,a7,T⟩
 rintro e1 v l Q ⟨ag,Y,j,R,a6,a4,a7,T⟩;clear bt bo b1 ef eg;refine Va rfl _ _ _ rfl _ _ rfl rfl (YBP [.int .i64 1,.int .i64 (b:Nat),.int .i64 0,.int .i64 0,.slice (some (aq l 0)) 64 Q] rfl (by simp[Value.oneCell']) (KY j 5 sq)) ?_;replace j:=j.all [.int .i64 1,.int .i64 (b:Nat),.int .i64 0,.int .i64 0,.slice (some (aq l 0)) 64 Q] sq;have ab:=Keep.setCells (g:=v) [.int .i64 1,.int .i64 (b:Nat),.int .i64 0,.int .i64 0,.slice (some (aq l 0)) 64 Q] 0 (Keep.refl [v] e1) (.inl sq);replace T:=ab.lt T;replace R:=R.keepIf ab (fun a z=>by cases z;simpa using a4);generalize e1.setCells v 0 [.int .i64 1,.int .i64 (b:Nat),.int .i64 0,.int .i64 0,.slice (some (aq l 0)) 64 Q]=W1 at *;replace ag:=ag.trans ab iq;clear ab
 have eh:((k:Nat):Int).tmod (2+(qe:Nat))=((k % (2+qe):Nat):Int):=by
  rw[Bu Z,Int.natCast_emod,Av];rfl
 have c5:k % (2+qe)<2+qe:=Bk _ Z;obtain⟨ei,c6⟩:=ex (k % (2+qe));rw[<- c6] at eh c5;have a8:∀ y∈YJ r Fs Fx,y<wr.heap.size:=ay.law.rep.lt;have e2:v∉YJ r Fs Fx:=fun n=>by have:=a8 _ n;omega
 obtain⟨o0,o1,o2,o3,o4⟩:=ZE j;have fq:=ZB c5;have fr:=ZB c6;clear c5 c6;by_cases fs:((ei:Nat):Int)=1+(qe:Nat)
 . have o:=SpOp.mark (B:=B) (ep:=I.ep) Z
   have ft:=ed W1 ag;have f0:=j.frozen 0;have f1:=j.frozen 1;have f2:=j.frozen 2;have f3:=j.frozen 3;have f4:=j.frozen 4;go_wp2_with fail;have br:=Keep.put5 W1 v (.int .i64 3) (.int .i64 0) (.int .i64 0) (.int .i64 ((I.ep:Nat)+1)) (.slice none 0 0);replace j:=j.put5 (.int .i64 3) (.int .i64 0) (.int .i64 0) (.int .i64 ((I.ep:Nat)+1)) (.slice none 0 0);unfold put5 at j br;generalize (((((W1.setCell (aq v 0) (.int .i64 3)).setCell (aq v 1) (.int .i64 0)).setCell (aq v 2) (.int .i64 0)).setCell (aq v 3) (.int .i64 ((I.ep:Nat)+1))).setCell (aq v 4) (.slice none 0 0))=W2 at j br ⊢;replace ag:=ag.trans br iq;have b2:Rd W2 none 0 (bys []):=Rd.nil _ _;have ah:(0:Nat)<=0:=AG _;have ai:∀ a:Addr,none=some a->wr.heap.size<=a.block:=fun a z=>by cases z
   have c7:∀ a:Addr,none=some a->a.block<W2.heap.size:=fun a z=>by cases z
   clear f0 f1 f2 f3 f4 o0 o1 o2 o3 o4 br

   have aj:=JAH 1 (k+1) _ _ Z Z o.may b2 ah;simp only[Av] at aj
   go_wp2_with (first
    | (go_at_call 46
       refine aj.mono ?_;clear aj;rintro e b3 ⟨u,rfl,C,O⟩;obtain⟨ej,c8,rfl,ek,_⟩:=XB C;have c9:=ay.kO (ag.tO O)
       have b4:=c9.take (ZA X) Z o (Rd.of_own C) (cp:=c8))
    | (go_at_call 45
       refine b4.mono ?_;clear b4;rintro e L ⟨a3,ca⟩;have b5:=(j.kO O).keep a3 e2;have b6:=(b2.keep O).keepIf a3 (fun a z n=>by have:=a8 _ n;have:=ai a z;omega);obtain⟨o0,o1,o2,o3,o4⟩:=ZE b5;rcases ca with⟨el,vc,cb,M,S',rfl,G,cc⟩ | ⟨rfl,M,q,G,h,ak,b7,cd⟩))
   . have U:=G.does (ZA X).well (ZA X).like Z o.may o.len o.ok o.mke ah b6
     go_wp2_with (refine U.mono ?_;clear U;rintro e b8 ⟨rfl,ce,cf,_,_⟩);go_roundw;case rel=>exact⟨k+1,cb,M,ce,S',_,by go_num,cf,ZB cc⟩
     case measure=>simp[intOf];omega
   have E:=ZA X
   have em:=E.gen;have en:=j.lt;have eo:=O.size;have al:∀ y∈YJ r Fs M,y<wr.heap.size\/b3.heap.size<=y:=fun y m=>(cd y m).imp (a8 y) id;have am:=fun W (i:kz L W)=>NextR_is W _ r s d x Fs M B _ (G.kO i).law.rep;have an:=fun W (i:kz L W)=>WaitingR_is W _ r s d x Fs M B _ (G.kO i).law.rep;simp only[KAZ (k+1) (1+J) Z q h.is] at an;have b9:=fun W (i:kz L W)=>(G.kO i).stands E.well E.like;have ba:=fun W (i:kz L W)=>Yy W _ r s d x Fs M B _ (G.kO i).law.rep (1+J) q h 100 (2*k) E.well.good Z (by rw[ak];exact b7);have bb:=fun W (i:kz L W)=>KAN (S:=S) (G.kO i).law.rep.st E.well Z Z (by rw[E.view];omega) (.inl E.mode);have a9:=fun W (i:kz L W)=>(G.kO i).law.cells;have y4:=(a9 L kq).2;have c:=Keep.refl [] L;simp only[Av] at am
   go_wp2_with (first
    | (go_at_call 48;refine(am _ c).mono ?_;clear am;rintro e w' ⟨rfl,rfl⟩)
    | (go_at_call 49
       refine(an _ c).mono ?_;clear an;rintro e b8 ⟨rfl,cg⟩;replace c:=c.tO cg
       have y5:=(a9 b8 c).2)
    | (go_at_call 50
       refine(b9 _ c).mono ?_;clear b9;rintro e ch ⟨rfl,ci⟩;replace c:=c.tO ci
       have y6:=(a9 ch c).2)
    | (go_at_call 51
       refine(ba _ c).mono ?_;clear ba;rintro e cj ⟨rfl,ck⟩;replace c:=c.tO ck
       have y7:=(a9 cj c).2)
    | (go_at_call 24
       refine(bb _ c).mono ?_;clear bb;rintro e ao ⟨f,bc,ap,rfl,cm,cn,ar,bd⟩;obtain⟨eq,a1,a2,co,cs,er,au⟩:=E.round dk cn (b7.two E.well.good.cap.ul);have es:¬ ((f:Nat):Int)<1:=Z
       have V:=(G.kO c).turned cm ar bd cs (by rw[co];exact E.view.symm);have et:=a3.size;have eu:=c.size;have ct:=(b5.kO c).keep ar (fun n=>by have:=a8 v (by simp[YJ,n]);omega);have cu:=(b6.keep c).keepIf ar (fun a z n=>by have:=a8 a.block (by simp[YJ,n]);have:=ai a z;omega)
       have bf:∀ y∈YJ r bc M,y<wr.heap.size\/b3.heap.size<=y:=fun y m=>by
        simp only[YJ,AL,AD] at m;rcases m with m | m | m
        . exact al y (by simp[YJ,m])
        . rcases bd y m with ad | ad
          . exact al y (by simp[YJ,ad])
          exact .inr Z
        exact al y (by simp[YJ,m])
       have cv:OneIs B ⟨ap,k+1,(QD (1+J)).set ((k+1) % (1+J)) q⟩ (1+J) q:=⟨h.pos,h.sl,h.is,h.op,h.k2,fun h3=>by
        have h4:=h.mke h3;have h5:=a2.ep;have h6:=E.like.ep;simp only at h4 ⊢;omega⟩
       have cw:∀ S',Does B ap q.o S'->S'.st=Ji ap.st q.o/\Good B S' 100 (2*k+1600+2):=fun S' hd=>by
        obtain⟨q1,q2,q3⟩:=a2.step a1 hd h.op h.k2 (by rw[ak];exact o.nk) (au _) Z;exact⟨q3,q1.good⟩
       have bg:=fun W (i:kz ao W)=>(V.kO i).stands a1 a2;have bh:=fun W (i:kz ao W)=>Vy W _ r s d x bc M B _ (V.kO i).law.rep (1+J) q cv 100 (2*k+1600) a1.good Z (by simp only;omega) (au _) cw;have y8:=V.law.cells.2
       have H:=Keep.refl [] ao)
    | (go_at_call 50
       refine(bg _ H).mono ?_;clear bg;rintro e ev ⟨rfl,ab⟩;replace H:=H.tO ab
       have y9:=(V.kO H).law.cells.2)
    | (go_at_call 51
       refine(bh _ H).mono ?_;clear bh;rintro e ew ⟨cx,cy,cz,ey,ub,rfl,d0,bi,av,d1,bj⟩;have d2:=(V.kO H).took d0 av d1;rw[ak] at bi;obtain⟨aa,d3,ez⟩:=a2.step a1 bi o.for_ o.ki o.nk (au _) Z;have d4:=(ct.kO H).keep av (fun n=>by have:=bf _ n;omega);have d5:=(cu.keep H).keepIf av (fun a z n=>by have:=bf _ n;have:=ai a z;have:=c7 a z;omega);obtain⟨v0,v1,v2,v3,v4⟩:=ZE d4;have d6:=fun y (m:y∈ae)=>((V.kO H).dev.lt y m).2;have U:=d2.does a1 a2 Z o.may o.len o.ok o.mke ah d5
       try simp only[Av] at U)
    | (go_at_call 47
       refine U.mono ?_;clear U;rintro e aw ⟨rfl,f5,N,d7,f6⟩
       have d8:=(Rd.of_own bj).keepIf d7 (fun a z n=>by
        have h1:=own_mem bj (g:=a.block) (by rw[z];simp[Value.ownBlock]);have h2:=d6 _ n;omega)
       have f7:=aa.good.seq;have f8:=aa.good.epoch;have bk:=ZAF (S:=cz) N.law.rep.st ub d8 (Kv _ _ _ _ N.law.rep.view Z Z aa.good.done);have ax:=fun W (i:kz aw W)=>WaitingR_is W _ r s d x cx cy B _ (N.kO i).law.rep;simp only[Kw] at ax;have bl:=fun W (i:kz aw W)=>(N.kO i).stands aa d3;have f9:=N.law.cells.2
       have A:=Keep.refl [] aw)
    | (go_at_call 52
       refine bk.mono ?_;clear bk;rintro e fa ⟨rfl,d9⟩;replace A:=A.tO d9
       have fb:=(N.kO A).law.cells.2)
    | (go_at_call 49
       refine(ax _ A).mono ?_;clear ax;rintro e fc ⟨rfl,da⟩;replace A:=A.tO da
       have fd:=(N.kO A).law.cells.2)
    | (go_at_call 50
       refine(bl _ A).mono ?_;clear bl;rintro e fe ⟨rfl,db⟩
       replace A:=A.tO db)
    | (go_at_call 53
       refine(VAN _).mono ?_;rintro e ff ⟨rfl,dc⟩;replace A:=A.tO dc))
   go_ret;exact⟨rfl,dm.tO (N.kO A).kept⟩
 have o:=SpOp.write (B:=B) (ep:=I.ep) ee eb (k:Nat)
 have b2:=R;have ah:=a6;have ai:∀ a,some (⟨l,0,none⟩:Addr)=some a->wr.heap.size<=a.block:=fun a z=>by cases z;exact a7
 have c7:∀ a,some (⟨l,0,none⟩:Addr)=some a->a.block<W1.heap.size:=fun a z=>by cases z;exact T

 have aj:=JAH 1 (k+1) _ _ Z Z o.may b2 ah;simp only[Av] at aj
 go_wp2_with (first
  | (go_at_call 46
     refine aj.mono ?_;clear aj;rintro e b3 ⟨u,rfl,C,O⟩;obtain⟨ej,c8,rfl,ek,_⟩:=XB C;have c9:=ay.kO (ag.tO O)
     have b4:=c9.take (ZA X) Z o (Rd.of_own C) (cp:=c8))
  | (go_at_call 45
     refine b4.mono ?_;clear b4;rintro e L ⟨a3,ca⟩;have b5:=(j.kO O).keep a3 e2;have b6:=(b2.keep O).keepIf a3 (fun a z n=>by have:=a8 _ n;have:=ai a z;omega);obtain⟨o0,o1,o2,o3,o4⟩:=ZE b5;rcases ca with⟨el,vc,cb,M,S',rfl,G,cc⟩ | ⟨rfl,M,q,G,h,ak,b7,cd⟩))
 . have U:=G.does (ZA X).well (ZA X).like Z o.may o.len o.ok o.mke ah b6
   go_wp2_with (refine U.mono ?_;clear U;rintro e b8 ⟨rfl,ce,cf,_,_⟩);go_roundw;case rel=>exact⟨k+1,cb,M,ce,S',_,by go_num,cf,ZB cc⟩
   case measure=>simp[intOf];omega
 have E:=ZA X
 have em:=E.gen;have en:=j.lt;have eo:=O.size;have al:∀ y∈YJ r Fs M,y<wr.heap.size\/b3.heap.size<=y:=fun y m=>(cd y m).imp (a8 y) id;have am:=fun W (i:kz L W)=>NextR_is W _ r s d x Fs M B _ (G.kO i).law.rep;have an:=fun W (i:kz L W)=>WaitingR_is W _ r s d x Fs M B _ (G.kO i).law.rep;simp only[KAZ (k+1) (1+J) Z q h.is] at an;have b9:=fun W (i:kz L W)=>(G.kO i).stands E.well E.like;have ba:=fun W (i:kz L W)=>Yy W _ r s d x Fs M B _ (G.kO i).law.rep (1+J) q h 100 (2*k) E.well.good Z (by rw[ak];exact b7);have bb:=fun W (i:kz L W)=>KAN (S:=S) (G.kO i).law.rep.st E.well Z Z (by rw[E.view];omega) (.inl E.mode);have a9:=fun W (i:kz L W)=>(G.kO i).law.cells;have y4:=(a9 L kq).2;have c:=Keep.refl [] L;simp only[Av] at am
 go_wp2_with (first
  | (go_at_call 48;refine(am _ c).mono ?_;clear am;rintro e w' ⟨rfl,rfl⟩)
  | (go_at_call 49
     refine(an _ c).mono ?_;clear an;rintro e b8 ⟨rfl,cg⟩;replace c:=c.tO cg
     have y5:=(a9 b8 c).2)
  | (go_at_call 50
     refine(b9 _ c).mono ?_;clear b9;rintro e ch ⟨rfl,ci⟩;replace c:=c.tO ci
     have y6:=(a9 ch c).2)
  | (go_at_call 51
     refine(ba _ c).mono ?_;clear ba;rintro e cj ⟨rfl,ck⟩;replace c:=c.tO ck
     have y7:=(a9 cj c).2)
  | (go_at_call 24
     refine(bb _ c).mono ?_;clear bb;rintro e ao ⟨f,bc,ap,rfl,cm,cn,ar,bd⟩;obtain⟨eq,a1,a2,co,cs,er,au⟩:=E.round dk cn (b7.two E.well.good.cap.ul);have es:¬ ((f:Nat):Int)<1:=Z
     have V:=(G.kO c).turned cm ar bd cs (by rw[co];exact E.view.symm);have et:=a3.size;have eu:=c.size;have ct:=(b5.kO c).keep ar (fun n=>by have:=a8 v (by simp[YJ,n]);omega);have cu:=(b6.keep c).keepIf ar (fun a z n=>by have:=a8 a.block (by simp[YJ,n]);have:=ai a z;omega)
     have bf:∀ y∈YJ r bc M,y<wr.heap.size\/b3.heap.size<=y:=fun y m=>by
      simp only[YJ,AL,AD] at m;rcases m with m | m | m
      . exact al y (by simp[YJ,m])
      . rcases bd y m with ad | ad
        . exact al y (by simp[YJ,ad])
        exact .inr Z
      exact al y (by simp[YJ,m])
     have cv:OneIs B ⟨ap,k+1,(QD (1+J)).set ((k+1) % (1+J)) q⟩ (1+J) q:=⟨h.pos,h.sl,h.is,h.op,h.k2,fun h3=>by
      have h4:=h.mke h3;have h5:=a2.ep;have h6:=E.like.ep;simp only at h4 ⊢;omega⟩
     have cw:∀ S',Does B ap q.o S'->S'.st=Ji ap.st q.o/\Good B S' 100 (2*k+1600+2):=fun S' hd=>by
      obtain⟨q1,q2,q3⟩:=a2.step a1 hd h.op h.k2 (by rw[ak];exact o.nk) (au _) Z;exact⟨q3,q1.good⟩
     have bg:=fun W (i:kz ao W)=>(V.kO i).stands a1 a2;have bh:=fun W (i:kz ao W)=>Vy W _ r s d x bc M B _ (V.kO i).law.rep (1+J) q cv 100 (2*k+1600) a1.good Z (by simp only;omega) (au _) cw;have y8:=V.law.cells.2
     have H:=Keep.refl [] ao)
  | (go_at_call 50
     refine(bg _ H).mono ?_;clear bg;rintro e ev ⟨rfl,ab⟩;replace H:=H.tO ab
     have y9:=(V.kO H).law.cells.2)
  | (go_at_call 51
     refine(bh _ H).mono ?_;clear bh;rintro e ew ⟨cx,cy,cz,ey,ub,rfl,d0,bi,av,d1,bj⟩;have d2:=(V.kO H).took d0 av d1;rw[ak] at bi;obtain⟨aa,d3,ez⟩:=a2.step a1 bi o.for_ o.ki o.nk (au _) Z;have d4:=(ct.kO H).keep av (fun n=>by have:=bf _ n;omega);have d5:=(cu.keep H).keepIf av (fun a z n=>by have:=bf _ n;have:=ai a z;have:=c7 a z;omega);obtain⟨v0,v1,v2,v3,v4⟩:=ZE d4;have d6:=fun y (m:y∈ae)=>((V.kO H).dev.lt y m).2;have U:=d2.does a1 a2 Z o.may o.len o.ok o.mke ah d5
     try simp only[Av] at U)
  | (go_at_call 47
     refine U.mono ?_;clear U;rintro e aw ⟨rfl,f5,N,d7,f6⟩
     have d8:=(Rd.of_own bj).keepIf d7 (fun a z n=>by
      have h1:=own_mem bj (g:=a.block) (by rw[z];simp[Value.ownBlock]);have h2:=d6 _ n;omega)
     have f7:=aa.good.seq;have f8:=aa.good.epoch;have bk:=ZAF (S:=cz) N.law.rep.st ub d8 (Kv _ _ _ _ N.law.rep.view Z Z aa.good.done);have ax:=fun W (i:kz aw W)=>WaitingR_is W _ r s d x cx cy B _ (N.kO i).law.rep;simp only[Kw] at ax;have bl:=fun W (i:kz aw W)=>(N.kO i).stands aa d3;have f9:=N.law.cells.2
     have A:=Keep.refl [] aw)
  | (go_at_call 52
     refine bk.mono ?_;clear bk;rintro e fa ⟨rfl,d9⟩;replace A:=A.tO d9
     have fb:=(N.kO A).law.cells.2)
  | (go_at_call 49
     refine(ax _ A).mono ?_;clear ax;rintro e fc ⟨rfl,da⟩;replace A:=A.tO da
     have fd:=(N.kO A).law.cells.2)
  | (go_at_call 50
     refine(bl _ A).mono ?_;clear bl;rintro e fe ⟨rfl,db⟩
     replace A:=A.tO db)
  | (go_at_call 53
     refine(VAN _).mono ?_;rintro e ff ⟨rfl,dc⟩;replace A:=A.tO dc))
 go_ret;exact⟨rfl,dm.tO (N.kO A).kept⟩