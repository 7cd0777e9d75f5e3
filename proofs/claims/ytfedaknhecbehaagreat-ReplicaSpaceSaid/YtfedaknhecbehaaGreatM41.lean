/- Lemmas of the proof, with their conditions. -/
import Derived.Test.YtfedaknhecbehaaGreatM40
import Derived.Test.YtfedaknhecbehaaGreatM32
namespace Go.Proofs.YtfedaknhecbehaaGreat
open Tryz Go.RowKit Go.Shelf
variable {w0:World} {F l:List Nat} {R':RS}
set_option linter.all false
set_option maxHeartbeats 8000000
set_option maxRecDepth 40000
theorem LawSt.new {w w':World} {B t d s:Nat} {D:PDisk} (h:KAV w0 w B t d s F D) {r x m:Nat} {Fx:List Nat} (c:ReplicaIs w' w0.heap.size r s d x F Fx B ⟨PS.fresh B D,0+1,QD m⟩) (a:kz w w') (e:∀ y∈YJ r F Fx,y∈F\/w.heap.size<=y) :
 LawSt w0 w' B t r s d x F Fx ⟨PS.fresh B D,0+1,QD m⟩:=by
 obtain⟨f,g,b,n,o,i,j,k⟩:=h;have:=b.lt;exact⟨⟨f,g,b.kO a⟩,c,fun l=>(e t l).elim i Z,j,k.tO a⟩
theorem KAR {S:PS} {g:Nat} {i j:Value} (c:S.st.view=1/\S.st.seq=0/\S.st.epoch=0) (k:Good 4 S 0 0)
 (h:Ran 4 ⟨S,0+1,((QD 4).set ((0+1+1) % 4) ⟨i,⟨3,0,0,1,[]⟩,true⟩).set ((0+1) % 4) ⟨j,⟨1,1,0,0,XY 9⟩,true⟩⟩ R' g) :
 g=0/\∃ a,R'=⟨a,3,QD 4⟩/\a.st.view=1/\a.st.seq=2/\a.st.epoch=1/\a.st.done=2:=by
 have l:KS 4 ⟨1,1,0,0,XY 9⟩:=.inl ⟨rfl,sq,sq,sq⟩;have m:KS 4 ⟨3,0,0,1,[]⟩:=.inr (.inr ⟨rfl,sq,sq⟩);rcases YBV Z rfl rfl h with⟨e,_⟩ | ⟨S',e,n⟩
 . simp at e
 obtain⟨o,b⟩:=e.good l k Z Z
 simp only at b;rcases n with⟨_,f,_⟩ | ⟨a,f,p,q⟩
 . exfalso
   apply f;rw[b];simp[Ji,c.2.2]
 obtain⟨r,d⟩:=f.good m o Z Z
 simp only at d;exact⟨p,a,q,by rw[d,b];simp[Ji,c],by rw[d,b];simp[Ji,c],by rw[d,b];simp[Ji,c],by rw[d,b];simp[Ji,c]⟩
theorem VAN (w:World):cr 53 #[] w (.bool true):=by
 have b8:=VAY 3 w;have b9:=fun W=>VAl W 4 Z Z;have ba:=fun W=>YBJ 4 Z Z W;have bb:=fun W=>YAb 9 W;have bc:∀ W,Calls prog 46 #[ii 1,ii 2,.agg #[ii 3,zz,zz,ii 1,zn]] W _:=fun W=>JAH 1 2 (k:=3) (b:=0) (c:=0) (e:=1) (n:=0) 0 (A:=none) [] Z Z (.inr (.inr ⟨rfl,rfl,rfl,Z,Z,rfl⟩)) (w:=W) (Rd.nil _ _) Z;go_enter func53,ntmps53
 go_wp2_with (first
  | (go_at_call 42
     refine b8.mono ?_;clear b8;rintro e w1 ⟨B,rfl,dm,_,_,cs⟩;obtain rfl:B=4:=Z
     have bd:=b9 w1
     clear b9)
  | (go_at_call 11
     refine bd.mono ?_;clear bd;rintro e L ⟨t,d,s,F,D,rfl,an⟩;obtain⟨mm,xx,a7,a8,a9,_,_,bf⟩:=id an;have t0:cl L t (pq d):=uq (a7.cell 0)
     have t2:cl L (aq t 2) (pq s):=uq (a7.cell 2)
     have bg:Calls prog 43 #[pq s,ii 4] L _:=KBF L w1.heap.size s d F 4 (PS.fresh 4 D) a8 (by simp[PS.fresh]) 4 Z Z rfl (by simp[PS.fresh]) bf.size;have bh:=fun W (l:kz L W)=>JAu W w1.heap.size s d F 4 (PS.fresh 4 D) (a8.kO l) (by simp[PS.fresh]) 0 Z;have bi:=fun W (l:kz L W)=>JAu W w1.heap.size s d F 4 (PS.fresh 4 D) (a8.kO l) (by simp[PS.fresh]) 17 Z
     have ct:=a7.lt)
  | (go_at_call 43
     first
     | (refine bg.mono ?_
        clear bg;rintro e w3 ⟨r,x,Fx,rfl,hr,ao,bj⟩;have ap:=LawSt.new an hr ao bj
        obtain⟨G,H⟩:=ap.cells)
     | (refine(ba _).mono ?_
        clear ba;rintro e w4 ⟨rfl,M⟩;have ar:=ap.kO M;clear G H;obtain⟨G,H⟩:=ar.cells
        replace M:=ao.tO M)
     | (refine(bh _ M).mono ?_
        clear bh;rintro e w5 ⟨rfl,a0⟩;have au:=ar.kO a0;clear G H;obtain⟨G,H⟩:=au.cells
        replace a0:=M.tO a0)
     | (refine(bi _ a0).mono ?_
        clear bi;rintro e w6 ⟨rfl,bk⟩;have aa:=au.kO bk;clear G H
        obtain⟨G,H⟩:=aa.cells))
  | (go_at_call 28
     refine(bb _).mono ?_;clear bb;rintro e I ⟨u,rfl,a,av⟩;obtain⟨j,o,rfl,cu⟩:=JI a Z))
 have bl:kz w6 (I.alloc (.cells #[ii 1,ii 1,zz,zz,.slice (some j) 64 o] 95)):=av.alloc _;have bm:=aa.kO bl;have bn:=Blk.new I 95 #[ii 1,ii 1,zz,zz,.slice (some j) 64 o];have bo:=(Rd.of_own a).keep (kq.alloc (.cells #[ii 1,ii 1,zz,zz,.slice (some j) 64 o] 95));have cv:=own_mem a (g:=j) (by simp[Value.ownBlock])
 have bp:Off [I.heap.size,j] (I.alloc (.cells #[ii 1,ii 1,zz,zz,.slice (some j) 64 o] 95)) (YJ r F Fx):=by
  have hl:=aa.rep.lt;have dn:=av.size;intro b hb
  have dp:w6.heap.size<=b/\b<I.heap.size+1:=by
   simp only[AL,DA,DZ] at hb;rcases hb with rfl | rfl <;> omega
  exact⟨fun hm=>by have:=hl b hm;omega,by simp;omega⟩
 have p:(PS.fresh 4 D).st.view=1/\(PS.fresh 4 D).st.seq=0/\(PS.fresh 4 D).st.epoch=0/\(PS.fresh 4 D).st.done=0:=⟨rfl,rfl,rfl,rfl⟩;generalize I.alloc (.cells #[ii 1,ii 1,zz,zz,.slice (some j) 64 o] 95)=w8 at *;generalize I.heap.size=ow at *;generalize PS.fresh 4 D=S at *;clear aa au ar ap ao M a0 bk av bl a cv t0 t2 G H a8 a7 an hr bj ct bf
 go_wp2_with (first
  | (go_at_call 46
     refine(bc _).mono ?_;clear bc;rintro e w9 ⟨u,rfl,a,ab⟩;obtain⟨cw,uc,rfl,_⟩:=XB a
     have a1:=(bm.kO ab).take p.1 3 0 0 1 0 (0+1+1) [] cw uc (Rd.of_own a) (.inr (.inr ⟨rfl,rfl,rfl,Z,Z,rfl⟩)) rfl (.inr rfl) Z 0 0 a9 (by simp[JX]) Z sq (Yp 4 4) sq sq (KU _ _) (.inr (.inr ⟨rfl,sq,sq⟩)))
  | (go_at_call 45
     refine a1.mono ?_;clear a1;rintro e bq ⟨v1,dq,dr,ds,dt,aw,a2,cx,br,ax,bs,bt⟩;have ay:=bp.kO ab;have bu:=ay.turn ax bs;have az:=(KeepN.of0 ab).trans (ay.keepN ax);obtain⟨rfl,rfl⟩:=YBO Z a2
     obtain⟨N,J,rfl,bv⟩:∃ N J,e=.returned (.tuple #[.slice N 25 J,zz])/\AckRow w9 bq S.st N J:=by
      rcases bt with⟨_,h⟩ | ⟨h,_⟩
      . exact h
      omega))
 clear bt cx a2 a ab ax bs ay bp bm;have bw:=Ke (Kv 1 0 0 0 Z Z Z Z) J (bv.rd p.1 p.2.1 p.2.2.1 p.2.2.2);have b0:=bn.keepN az sq;have b1:=rd_keepN bo az (by rintro _ ⟨⟩;simp);have a3:=fun(v s:Nat) hv hs W hr=>JAH v s (k:=1) (b:=1) (c:=0) (e:=0) (n:=64) o (A:=(some ⟨j,0,none⟩)) (XY 9) hv hs (.inl ⟨rfl,Z,rfl,rfl,rfl⟩) (w:=W) hr cu;clear bn bo az
 go_wp2_with (first
  | (go_at_call 148
     refine bw.mono ?_;clear bw;rintro e b2 ⟨ac,ad,rfl,_,ae⟩;have af:kz bq (b2.alloc (.cells #[ii 8,ii 1,zz,zz,zz,zz,zz,.slice ac 0 ad] 211)):=ae.alloc _;have bx:=Blk.new b2 211 #[ii 8,ii 1,zz,zz,zz,zz,zz,.slice ac 0 ad];obtain⟨q,y,z,C,E⟩:=ZE (b0.kO af);have bz:=bu.add af (b:=b2.heap.size) ae.size sq aw.rep.lt;have c2:=aw.kO af
     have c4:Calls prog 46 #[ii 1,ii 1,.agg #[ii 1,ii 1,zz,zz,.slice (some j) 64 o]] _ _:=a3 1 1 Z Z _ (b1.keep af))
  | (go_at_call 46
     refine c4.mono ?_;clear c4;rintro e cy ⟨u,rfl,a,ag⟩;obtain⟨cz,d0,rfl,_⟩:=XB a;have a1:=(c2.kO ag).take p.1 1 1 0 0 64 (0+1) (XY 9) cz d0 (Rd.of_own a) (.inl ⟨rfl,Z,rfl,rfl,rfl⟩) sq (.inl Z) Z 0 0 a9 (by show 0+QF _<=49;rw[QAA Z _ rfl];omega) Z sq br sq sq rfl (.inl ⟨rfl,sq,sq,sq⟩)
     clear q y z C E)
  | (go_at_call 45
     refine a1.mono ?_;clear a1;rintro e O ⟨v2,P,a4,du,dv,ah,a2,d1,d2,b3,c5,c6⟩;have b4:=bz.kO ag;have dw:=b4.turn b3 c5;have ai:=(KeepN.of0 ag).trans (b4.keepN b3);obtain⟨rfl,a5,rfl,i⟩:=KAR ⟨p.1,p.2.1,p.2.2.1⟩ a9 a2
     obtain⟨dx,d3,rfl,d4⟩:∃ N J,e=.returned (.tuple #[.slice N 25 J,zz])/\AckRow cy O a5.st N J:=by
      rcases c6 with⟨_,h⟩ | ⟨h,_⟩
      . exact h
      omega))
 clear c6 d1 a2 a ag b3 c5 b4 bz c2 p a9 br d2 bu aw;have c7:=Ke (Kv 1 2 1 2 Z Z Z Z) d3 (d4.rd i.1 i.2.1 i.2.2.1 i.2.2.2);have aj:=(b0.kO (ae.alloc (.cells #[ii 8,ii 1,zz,zz,zz,zz,zz,.slice ac 0 ad] 211))).keepN ai sq;have ak:=rd_keepN (b1.keep (ae.alloc (.cells #[ii 8,ii 1,zz,zz,zz,zz,zz,.slice ac 0 ad] 211))) ai (by rintro _ ⟨⟩;simp);have d5:=bx.keepN ai sq;clear b0 b1 bx ai bv;have Q:=fun W (l:kz O W)=>(ah.kO l).rep;have c8:∀ W,kz O W->w1.heap.size<=W.heap.size:=fun W l=>(ah.kO l).kept.size
 go_wp2_with (first
  | (go_at_call 148
     refine c7.mono ?_;clear c7;rintro e c9 ⟨ca,cb,rfl,_,d6⟩;have b5:kz O (c9.alloc (.cells #[ii 8,ii 1,ii 2,zz,zz,ii 1,ii 2,.slice ca 0 cb] 211)):=d6.alloc _;have d7:=Blk.new c9 211 #[ii 8,ii 1,ii 2,zz,zz,ii 1,ii 2,.slice ca 0 cb];obtain⟨q,y,z,C,E⟩:=ZE (aj.kO b5)
     have cc:Calls prog 46 #[ii 1,ii 1,.agg #[ii 1,ii 1,zz,zz,.slice (some j) 64 o]] _ _:=a3 1 1 Z Z _ (ak.keep b5))
  | (go_at_call 46
     first
     | (refine cc.mono ?_
        clear cc;rintro e d8 ⟨u,rfl,a,T⟩;obtain⟨d9,ub,rfl,_⟩:=XB a;have da:=T;replace T:=b5.tO T;have cd:=YAo d8 _ r s d x P a4 4 ⟨a5,3,QD 4⟩ (Q _ T) (c8 _ T) 1 1 0 0 64 1 (XY 9) d9 ub (by rw[i.1];exact Rd.of_own a) (.inl ⟨rfl,Z,rfl,rfl,rfl⟩) sq (.inl Z) Z (by show 1<3;omega) (by simp[i]) (by simp[i]) (by simp[i])
        clear q y z C E)
     | (refine ce.mono ?_
        clear ce;rintro e db ⟨u,rfl,a,U⟩;obtain⟨dc,uc,rfl,_⟩:=XB a;replace f:=f.tO U;replace U:=V.tO U;have cf:=JBE db _ r s d x P a4 4 ⟨a5,3,QD 4⟩ (Q _ U) (c8 _ U) 1 1 0 0 64 7 (XY 9) dc uc (by rw[i.1];exact Rd.of_own a) (.inl ⟨rfl,Z,rfl,rfl,rfl⟩) sq (.inl Z) Z sq
        clear q y z C E)
     | (refine cg.mono ?_
        clear cg;rintro e dd ⟨u,rfl,a,a6⟩;obtain⟨dy,ud,rfl,_⟩:=XB a;replace f:=f.tO a6;replace a6:=X.tO a6;have ch:=JAh (w:=dd) (r:=r) (s:=s) (d:=d) (x:=x) (Fs:=P) (Fx:=a4) (B:=4) (R:=⟨a5,3,QD 4⟩) (Q _ a6) 2 (k:=1) (b:=1) (c:=0) (e:=0) (m:=64) 3 (XY 9) ud (Rd.of_own a) (.inl ⟨rfl,Z,rfl,rfl,rfl⟩) sq (.inl Z) Z Z (by simp[i])
        clear q y z C E)
     | (refine ci.mono ?_
        clear ci;rintro e dz ⟨u,rfl,a,al⟩;obtain⟨e0,ue,rfl,de⟩:=JI a Z;replace f:=f.tO al;replace al:=Y.tO al;have cj:=ZAt ue _ 70 (Rd.of_own a) Z Z de
        clear q y z C E))
  | (go_at_call 164
     refine cj.mono ?_;clear cj;rintro e df ⟨u,rfl,a,am⟩;obtain⟨dg,ug,rfl,_⟩:=XB a;replace f:=f.tO am;replace am:=al.tO am
     have ck:=XAw r dg 89 ug df (JAq ug _ (Rd.of_own a) Z Z (YAl 1 1 3 1 0 0 0 _ (XY 9) 85 sq Z)))
  | (go_at_call 45
     first
     | (refine cd.mono ?_
        clear cd;rintro e dh ⟨u,rfl,cm,V⟩;obtain⟨e1,di,rfl,_⟩:=XB cm;have dj:=da.tO V;have f:=Keep.refl [] dh;replace V:=T.tO V;obtain⟨q,y,z,C,E⟩:=ZE (aj.kO V)
        have ce:Calls prog 46 #[ii 1,ii 7,.agg #[ii 1,ii 1,zz,zz,.slice (some j) 64 o]] _ _:=a3 1 7 Z Z _ (ak.keep V))
     | (refine cf.mono ?_
        clear cf;rintro e e2 ⟨rfl,X⟩;replace f:=f.tO X;replace X:=U.tO X;obtain⟨q,y,z,C,E⟩:=ZE (aj.kO X)
        have cg:Calls prog 46 #[ii 2,ii 3,.agg #[ii 1,ii 1,zz,zz,.slice (some j) 64 o]] _ _:=a3 2 3 Z Z _ (ak.keep X))
     | (refine ch.mono ?_
        clear ch;rintro e e3 ⟨rfl,Y⟩;replace f:=f.tO Y;replace Y:=a6.tO Y;obtain⟨q,y,z,C,E⟩:=ZE (aj.kO Y)
        have ci:Calls prog 46 #[ii 1,ii 3,.agg #[ii 1,ii 1,zz,zz,.slice (some j) 64 o]] _ _:=a3 1 3 Z Z _ (ak.keep Y))
     | (refine ck.mono ?_
        clear ck;rintro e cn ⟨rfl,K⟩;replace f:=f.tO K;replace K:=am.tO K;have co:=XAe cn)))
 obtain⟨G,H⟩:=(ah.kO K).cells;obtain⟨f0,f1,f2,f3,f4,f5,f6,f7⟩:=KB (d5.kO K);obtain⟨g0,g1,g2,g3,g4,g5,g6,g7⟩:=KB (d7.kO (dj.tO f));have cp:=ZAF (w:=cn) (base:=w1.heap.size) (s:=s) (d:=d) (Fs:=P) (B:=4) (S:=a5) (Q _ K).st di ((Rd.of_own cm).keep f) (by rw[i.1,i.2.1,i.2.2.1,i.2.2.2];exact Kv 1 2 1 2 Z Z Z Z);have cq:=fun W (l:kz O W)=>NextR_is W _ r s d x P a4 4 _ (Q W l);have b6:=fun W (l:kz O W)=>WaitingR_is W _ r s d x P a4 4 _ (Q W l);simp only[Kw] at b6
 go_wp2_with (first
  | (go_at_call 51
     refine co.mono ?_;clear co
     rintro e w' ⟨rfl,rfl⟩)
  | (go_at_call 52
     refine cp.mono ?_;clear cp;rintro e e4 ⟨rfl,dk⟩
     have b7:=K.tO dk)
  | (go_at_call 48
     refine(cq _ b7).mono ?_;clear cq
     rintro e w' ⟨rfl,rfl⟩)
  | (go_at_call 49
     refine(b6 _ b7).mono ?_;clear b6;rintro e e5 ⟨rfl,dl⟩))
 go_ret;exact⟨rfl,cs.tO ((ah.kO (b7.tO dl)).kept)⟩
theorem LawSt.keepF {w w':World} {B t r s d x:Nat} {Fs Fx:List Nat} {R:RS} (h:LawSt w0 w B t r s d x Fs Fx R) (a:Keep l w w') (b:Apart (YJ r Fs Fx) l) (c:t∉l) (e:∀ y∈l,w0.heap.size<=y):LawSt w0 w' B t r s d x Fs Fx R:=
 ⟨by obtain⟨f,g,i⟩:=h.two;exact⟨f,g,i.keep a c⟩,h.rep.keep a b,h.tn,h.tb,h.kept.trans a (fun y j=>.inr (e y j))⟩
theorem IdlAt.keep {w w':World} {base i:Nat} {I:PIdl} (h:IdlAt w base i F I) (a:Keep l w w') (b:Apart F l):IdlAt w' base i F I:=by
 obtain⟨c,d,bs,os,h⟩:=h;exact⟨c,d,bs,os,h.keep a b⟩
theorem IdlAt.lt {w:World} {base i:Nat} {I:PIdl} (h:IdlAt w base i F I):∀ x∈F,base<=x/\x<w.heap.size:=by
 obtain⟨a,b,bs,os,h⟩:=h;exact h.lt
structure FSt (wA w:World) (B t r s d x i tb ib oB:Nat) (Fs Fx FI:List Nat) (R:RS) (I:PIdl) (th:List Bool) (OA:Option Addr) (L oc:Nat) (oz:List (Value×POp)):Prop where
 law:LawSt wA w B t r s d x Fs Fx R
 dev:IdlAt w ib i FI I
 thr:Blk w tb 4 (th.map Value.bool).toArray
 ap:Apart (YJ r Fs Fx) FI
 tr:tb∉YJ r Fs Fx
 ti:tb∉FI
 tw:t∉FI
 tt:t≠tb
 ob:OHold w oB (YJ r Fs Fx++(tb :: FI)) (.slice OA L oc) oz
 ibg:wA.heap.size<=ib
 tbg:wA.heap.size<=tb
namespace FSt
variable {wA w w':World} {B t r s d x i tb ib oB:Nat} {Fs Fx FI:List Nat} {R:RS} {I:PIdl} {th:List Bool} {OA:Option Addr} {L oc:Nat} {oz:List (Value×POp)}
theorem kO (h:FSt wA w B t r s d x i tb ib oB Fs Fx FI R I th OA L oc oz) (a:kz w w'):FSt wA w' B t r s d x i tb ib oB Fs Fx FI R I th OA L oc oz:=
 ⟨h.law.kO a,h.dev.keep a Apart.nil_right,h.thr.kO a,h.ap,h.tr,h.ti,h.tw,h.tt,h.ob.kO a,h.ibg,h.tbg⟩
theorem took (h:FSt wA w B t r s d x i tb ib oB Fs Fx FI R I th OA L oc oz) {b c:List Nat} (g:LawSt wA w' B t r s d x b c R') (e:Keep (YJ r Fs Fx) w w') (f:Grow w (YJ r Fs Fx) (YJ r b c)):FSt wA w' B t r s d x i tb ib oB b c FI R' I th OA L oc oz:=by
 have k:=h.thr.lt;refine⟨g,h.dev.keep e h.ap.symm,h.thr.keep e h.tr,h.ap.grow f (fun y a=>(h.dev.lt y a).2),fun j=>(f _ j).elim h.tr Z,h.ti,h.tw,h.tt,h.ob.turn e (fun y a=>At _ a) (fun y a=>?_),h.ibg,h.tbg⟩;rcases AD.1 a with a | a
 . exact(f y a).imp (At _) id
 exact .inl (A6 _ a)
theorem done (h:FSt wA w B t r s d x i tb ib oB Fs Fx FI R I th OA L oc oz) {c:List Nat} {I':PIdl} (hi:IdlAt w' ib i c I') (e:Keep FI w w') (b:∀ y∈c,y∈FI\/w.heap.size<=y):FSt wA w' B t r s d x i tb ib oB Fs Fx c R I' th OA L oc oz:=by
 have g:=h.thr.lt;have j:=h.law.lt;refine⟨h.law.keepF e h.ap h.tw (fun y a=>AB h.ibg (h.dev.lt y a).1),hi,h.thr.keep e h.ti,h.ap.grow_r b h.law.rep.lt,h.tr,fun f=>(b _ f).elim h.ti Z,fun f=>(b _ f).elim h.tw Z,h.tt,h.ob.turn e (fun y a=>A6 _ (Ak _ a)) (fun y a=>?_),h.ibg,h.tbg⟩;rcases AD.1 a with a | a
 . exact .inl (At _ a)
 rcases AL.1 a with rfl | a
 . exact .inl (A6 _ (CS ..))
 exact(b y a).imp (fun h=>A6 _ (Ak _ h)) id
theorem there (h:FSt wA w B t r s d x i tb ib oB Fs Fx FI R I th OA L oc oz) {j:Nat} (a:j<th.length):cl w (aq tb j) (.bool (th.getD j false)):=by
 rw[h.thr.cell j];simp[AA,AC a]
theorem kept (h:FSt wA w B t r s d x i tb ib oB Fs Fx FI R I th OA L oc oz):kz wA w:=h.law.kept
theorem stands (h:FSt wA w B t r s d x i tb ib oB Fs Fx FI R I th OA L oc oz) {b:Nat->POp} {m:Nat} (a:Stm B b m R.S) (c:I=idl B b m) :
 cr 50 #[pq s,pq i] w (.bool true):=by
 subst c;exact ZAP h.law.rep.st a.good h.dev a.base a.over a.epoch a.seq a.done
end FSt
def JBn (p:Nat×List UInt8) (x:Nat):Prop:=p.1<=x/\x<p.1+p.2.length / 64
theorem JAX (l:List (Nat×List UInt8)):∀ D:PDisk,D.now.length=D.n*64->(∀ p∈l,p.1+p.2.length / 64<=D.n) ->
 (Ym D l).n=D.n/\(Ym D l).now.length=D.n*64/\∀ x,(∀ p∈l,¬ JBn p x)->seg 64 (Ym D l).now x=seg 64 D.now x:=by
 induction l with
 | nil=>exact fun D a _=>⟨rfl,a,fun x _=>rfl⟩
 | cons q l ih=>
   intro D a d;obtain⟨f,g⟩:=Yk D q.1 q.2 (q.2.length / 64) a (d q sq) Z;have b:=(QP D q.1 q.2 (q.2.length / 64)).1;obtain⟨h,i,j⟩:=ih (Qe D q.1 q.2 (q.2.length / 64)) f (fun p c=>by rw[b];exact d p (by simp[c]));refine⟨h.trans b,by rw[<- b];exact i,fun x e=>?_⟩;have k:=j x (fun p c=>e p (by simp[c]));refine k.trans ?_;rw[g];exact AF (e q sq)
theorem JAY (B:Nat) (p:Nat×List UInt8):p∈XBU B↔p=(0,List.replicate 64 0)\/p=(1,QBb B 1 1)\/p=(2,ZAV B)\/p=(4,List.replicate 128 0) \/
 (∃ k,k<pgs B/\p=(6+2*k,Yq (List.replicate (min (B-15*k) 15) 0)))\/(∃ k,k<pgs B/\p=(6+2*(k+pgs B),Yq (List.replicate (min (B-15*k) 15) (-1)))):=by
 unfold XBU Qj;simp only[AD,C8,D8,AL,DA,DZ,BK];constructor
 . rintro(((⟨k,a,rfl⟩ | ⟨k,a,rfl⟩) | h | h) | h | h)
   . exact .inr (.inr (.inr (.inr (.inl ⟨k,a,rfl⟩))))
   . exact .inr (.inr (.inr (.inr (.inr ⟨k,a,rfl⟩))))
   . exact .inr (.inr (.inl h))
   . exact .inr (.inr (.inr (.inl h)))
   . exact .inl h
   exact .inr (.inl h)
 rintro(h | h | h | h | ⟨k,a,h⟩ | ⟨k,a,h⟩)
 . exact .inr (.inl h)
 . exact .inr (.inr h)
 . exact .inl (.inr (.inl h))
 . exact .inl (.inr (.inr h))
 . exact .inl (.inl (.inl ⟨k,a,h.symm⟩))
 exact .inl (.inl (.inr ⟨k,a,h.symm⟩))
theorem JAP (B:Nat):(ZAV B).length=128:=Kj _ _ _ _ rfl
theorem Yr (B k:Nat) (x:Int):(Yq (List.replicate (min (B-15*k) 15) x)).length=64:=Kf (by simp;omega)
theorem KAp {B:Nat} {p:Nat×List UInt8} (h:p∈XBU B):p.2.length / 64=if p.1=2\/p.1=4 then 2 else 1:=by
 rcases(JAY B p).1 h with rfl | rfl | rfl | rfl | ⟨k,hk,rfl⟩ | ⟨k,hk,rfl⟩
 . simp
 . simp
 . simp[JAP]
 . simp
 . simp only[Yr];rw[AF Z]
 simp only[Yr];rw[AF Z]
theorem KAK {B:Nat} {p:Nat×List UInt8} (h:p∈XBU B):p.1+p.2.length / 64<=6+4*pgs B/\(p.1=0\/p.1=1\/p.1=2\/p.1=4\/(6<=p.1/\p.1 % 2=0)):=by
 rw[KAp h];rcases(JAY B p).1 h with rfl | rfl | rfl | rfl | ⟨k,hk,rfl⟩ | ⟨k,hk,rfl⟩
 . simp;omega
 . simp;omega
 . simp;omega
 . simp
 . simp only;rw[AF Z];omega
 simp only;rw[AF Z];omega
theorem XBi {n B:Nat} (c:n=198+4*pgs B) {x:Nat} (a:∀ p∈XBU B,¬ JBn p x) (d:x<n):seg 64 (QBm n B).now x=List.replicate 64 0:=by
 show seg 64 (Ym (PDisk.new n) (XBU B)).now x=_;rw[(JAX _ (PDisk.new n) (by simp[PDisk.new]) (fun q b=>by have:=(KAK b).1;show _<=n;omega)).2.2 x a];show ((List.replicate (n*64) (0:UInt8)).drop (x*64)).take 64=_;rw[CV,Cw]
 congr 1
 omega
structure Fmt (B:Nat) (D:PDisk):Prop where
 n:D.n=198+4*pgs B
 len:D.now.length=D.n*64
 held:D.held=[]
 sup0:seg 64 D.now 0=List.replicate 64 0
 sup1:seg 64 D.now 1=QBb B 1 1
 reg0:seg 64 D.now 2++seg 64 D.now 3=ZAV B
 reg1:seg 64 D.now 4++seg 64 D.now 5=List.replicate 128 0
 base:∀ k,k<pgs B->seg 64 D.now (6+2*k)=Yq (List.replicate (min (B-15*k) 15) 0)
 over:∀ k,k<pgs B->seg 64 D.now (6+2*(k+pgs B))=Yq (List.replicate (min (B-15*k) 15) (-1))
 log:∀ x,6+4*pgs B<=x->x<198+4*pgs B->seg 64 D.now x=List.replicate 64 0
theorem QAw (B:Nat) (D:PDisk):Ext B (PS.fresh B D):=by
 refine⟨⟨rfl,?_,?_⟩,⟨rfl,?_,?_⟩,AP _,?_,?_⟩
 . intro u c
   simp only[PS.fresh,AL] at c;rcases c with rfl | c
   . simp
   rw[AX c];simp
 . intro k d
   have f:k<8:=by simpa [PS.fresh] using d
   have:k=0\/k=1\/k=2\/k=3\/k=4\/k=5\/k=6\/k=7:=Z
   rcases this with rfl | rfl | rfl | rfl | rfl | rfl | rfl | rfl <;> simp[PS.fresh]
 . intro s e
   unfold ZN;simp only[PS.fresh,C4];rw[XK (a:=0) Z,XK (a := -1) Z];simp only[Ap,CD,BK,AA,Au];rw[AJ e];rfl
 . intro i hi
   simp only[PS.fresh,AA,Au] at hi
   split at hi <;> simp at hi
 . exact fun x b=>by simp only[PS.fresh] at b;rw[AX b];omega
 exact fun x b=>by simp only[PS.fresh] at b;rw[AX b];omega
theorem Does.gen {B:Nat} {S S':PS} {o:POp} (h:Does B S o S'):S'.st.gen=S.st.gen:=by
 rcases h with⟨_,_,_,_,_,_,_,rfl⟩ | ⟨_,_,_,_,_,_,_,rfl⟩ | ⟨_,_,_,_,_,_,_,_,_,_,_,_,_,_,rfl⟩ <;> rfl
section
variable (w:World) (base s d g t p m:Nat) (Fd Ft Fw Fm:List Nat) (L0 L1:Value) (B:Nat) (S:PS) (h:StoreIs w base s d g t p m Fd Ft Fw Fm L0 L1 B S)
include h
theorem offC_is:cq 89 #[pq s] w (.bool false):=by
 have b:=DiskS_is w base s d g t p m Fd Ft Fw Fm L0 L1 B S h;have a:=YAD w base d Fd S.D h.log.disk;rw[h.log.off] at a;go_enter func89,ntmps89
 go_wp2_with (first
  | (go_at_call 91;refine b.mono ?_;clear b;rintro e w' ⟨rfl,rfl⟩)
  | (go_at_call 134;refine a.mono ?_;clear a;rintro e w' ⟨rfl,rfl⟩))
 go_ret;exact⟨rfl,rfl⟩
theorem PosS_is:cr 18 #[pq s] w (.agg #[ii S.W.pos.seg,ii S.W.pos.off,ii S.W.pos.lsn,ii S.W.pos.prev,ii S.W.pos.mount]):=by
 obtain⟨U,V,X,z⟩:=h.log.wri;have c:=fun W (A:kz w W)=>VAo W p _ _ _ _ _ S.W.pos (z.blk.kO A);obtain⟨k,l,m,n,B,C,D,E,F,G,H,I,J,K,L,M,N,O⟩:=KC h.blk;clear k l m n C D E F G H I J K L M N O;have Y:=h.blk.lt;have Q:=Blk.new w 49 #[zz,zz,zz,zz,zz];simp only[PPos.cs] at c;generalize S.W.pos=P at *;obtain⟨d,f,g,i,j⟩:=P;simp only at *;go_enter func18,ntmps18;go_wp2_with (go_at_call 88;refine(c _ (kq.alloc _)).mono ?_;clear c;rintro e w1 ⟨rfl,o⟩;(have a:=Q.kO o);(have a0:=a.lt);(have k:cl w1 w.heap.size zz:=uq (a.cell 0));(have f0:=a.frozen 0);(have l:cl w1 (aq w.heap.size 1) zz:=uq (a.cell 1));(have f1:=a.frozen 1);(have m:cl w1 (aq w.heap.size 2) zz:=uq (a.cell 2));(have f2:=a.frozen 2);(have n:cl w1 (aq w.heap.size 3) zz:=uq (a.cell 3));(have f3:=a.frozen 3);(have B:cl w1 (aq w.heap.size 4) zz:=uq (a.cell 4));(have f4:=a.frozen 4));have b:=((((a.set 0 (.int .i64 (d:Nat))).set 1 (.int .i64 (f:Nat))).set 2 (.int .i64 (g:Nat))).set 3 (.int .i64 (i:Nat))).set 4 (.int .i64 (j:Nat));have R:=(((((Keep.refl [w.heap.size] w1).setCell (p:=⟨w.heap.size,0,none⟩) (.inl sq) (.int .i64 (d:Nat))).setCell (p:=⟨w.heap.size,1,none⟩) (.inl sq) (.int .i64 (f:Nat))).setCell (p:=⟨w.heap.size,2,none⟩) (.inl sq) (.int .i64 (g:Nat))).setCell (p:=⟨w.heap.size,3,none⟩) (.inl sq) (.int .i64 (i:Nat))).setCell (p:=⟨w.heap.size,4,none⟩) (.inl sq) (.int .i64 (j:Nat));simp only[PU] at b;have q:=b.cell 0;have r:=b.cell 1;have t:=b.cell 2;have u:=b.cell 3;have y:=b.cell 4;simp at q r t u y;have T:kz w (w.alloc (.cells #[zz,zz,zz,zz,zz] 49)):=kq.alloc _;refine Ac (v:=.agg #[d,f,g,i,j]) (by simp[results,results18,go_sem,q,r,t,u,y]) rfl ⟨rfl,(T.tO o).trans R iq⟩