/- Lemmas of the proof, with their conditions. -/
import Derived.Test.YtfedaknhecbehaaGreatL49
import Derived.Test.YtfedaknhecbehaaGreatL36
import Derived.Test.YtfedaknhecbehaaGreatL47
namespace Go.Proofs.YtfedaknhecbehaaGreat
open Tryz Go.RowKit Go.Shelf
variable {A:Option Addr} {len:Nat}
set_option linter.all false
set_option maxHeartbeats 16000000
set_option maxRecDepth 40000
section
variable (w:World) (base s d g t p m:Nat) (Fd Ft Fw Fm:List Nat) (L0 L1:Value) (B:Nat) (S:PS) (h:StoreIs w base s d g t p m Fd Ft Fw Fm L0 L1 B S)
include h
theorem GeomS_is:cq 17 #[pq s] w (pq g):=by
 obtain⟨a,b,c,d,e,f,i,j,k,l,m,n,o,p,r,t,u,v⟩:=KC h.blk;go_enter func17,ntmps17
 go_wp2
 go_ret;exact⟨rfl,rfl⟩
theorem TableS_is:cq 14 #[pq s] w (pq t):=by
 obtain⟨a,b,c,d,e,f,g,i,j,k,l,m,n,o,p,r,u,v⟩:=KC h.blk;go_enter func14,ntmps14
 go_wp2
 go_ret;exact⟨rfl,rfl⟩
end
section
variable (w:World) (base s d g t p m:Nat) (Fd Ft Fw Fm:List Nat) (L0 L1:Value) (B:Nat) (S:PS) (h:StoreIs w base s d g t p m Fd Ft Fw Fm L0 L1 B S)
include h
theorem offC_is:cq 89 #[pq s] w (.bool false):=by
 have b:=DiskS_is w base s d g t p m Fd Ft Fw Fm L0 L1 B S h;have a:=Ku w base d Fd S.D h.log.disk;rw[h.log.off] at a;go_enter func89,ntmps89
 go_wp2_with (first
  | (go_at_call 91;refine b.mono ?_;clear b;rintro e w' ⟨rfl,rfl⟩)
  | (go_at_call 134;refine a.mono ?_;clear a;rintro e w' ⟨rfl,rfl⟩))
 go_ret;exact⟨rfl,rfl⟩
theorem PosS_is:cr 18 #[pq s] w (.agg #[ii S.W.pos.seg,ii S.W.pos.off,ii S.W.pos.lsn,ii S.W.pos.prev,ii S.W.pos.mount]):=by
 obtain⟨V,X,Y,A⟩:=h.log.wri;have c:=fun W (B:kz w W)=>VBD W p _ _ _ _ _ S.W.pos (A.blk.kO B);obtain⟨k,l,m,n,C,D,E,F,G,H,I,J,K,L,M,N,O,Q⟩:=KC h.blk;clear k l m n D E F G H I J K L M N O Q;have a0:=h.blk.lt;have R:=Blk.new w 49 #[zz,zz,zz,zz,zz];simp only[PPos.cs] at c;generalize S.W.pos=P at *;obtain⟨d,f,g,i,j⟩:=P;simp only at *;go_enter func18,ntmps18;go_wp2_with (go_at_call 88;refine(c _ (kq.alloc _)).mono ?_;clear c;rintro e w1 ⟨rfl,o⟩;(have a:=R.kO o);(have a1:=a.lt);(have k:cl w1 w.heap.size zz:=uq (a.cell 0));(have f0:=a.frozen 0);(have l:cl w1 (aq w.heap.size 1) zz:=uq (a.cell 1));(have f1:=a.frozen 1);(have m:cl w1 (aq w.heap.size 2) zz:=uq (a.cell 2));(have f2:=a.frozen 2);(have n:cl w1 (aq w.heap.size 3) zz:=uq (a.cell 3));(have f3:=a.frozen 3);(have C:cl w1 (aq w.heap.size 4) zz:=uq (a.cell 4));(have f4:=a.frozen 4));have b:=((((a.set 0 (.int .i64 (d:Nat))).set 1 (.int .i64 (f:Nat))).set 2 (.int .i64 (g:Nat))).set 3 (.int .i64 (i:Nat))).set 4 (.int .i64 (j:Nat));have T:=(((((Keep.refl [w.heap.size] w1).setCell (p:=⟨w.heap.size,0,none⟩) (.inl sq) (.int .i64 (d:Nat))).setCell (p:=⟨w.heap.size,1,none⟩) (.inl sq) (.int .i64 (f:Nat))).setCell (p:=⟨w.heap.size,2,none⟩) (.inl sq) (.int .i64 (g:Nat))).setCell (p:=⟨w.heap.size,3,none⟩) (.inl sq) (.int .i64 (i:Nat))).setCell (p:=⟨w.heap.size,4,none⟩) (.inl sq) (.int .i64 (j:Nat));simp only[PU] at b;have r:=b.cell 0;have t:=b.cell 1;have u:=b.cell 2;have y:=b.cell 3;have z:=b.cell 4;simp at r t u y z;have U:kz w (w.alloc (.cells #[zz,zz,zz,zz,zz] 49)):=kq.alloc _;refine Af (v:=.agg #[d,f,g,i,j]) (by simp[results,results18,go_sem,r,t,u,y,z]) rfl ⟨rfl,(U.tO o).trans T iq⟩
end
theorem Emitted.relO {B:Nat} {D D':PDisk} {us a:List (Nat×Nat)} {W W':PW} (b:Emitted B D us W D' a W') (lv:List Nat):relO a lv 8=relO us lv 8:=by
 unfold Go.Proofs.YtfedaknhecbehaaGreat.relO;refine List.filter_congr (fun s _=>?_);unfold Qc;have:=b.stOf s;unfold Go.Proofs.YtfedaknhecbehaaGreat.stOf at this;rw[this]
theorem Vy {w:World} {base s d:Nat} {F:List Nat} {B:Nat} {S:PS} (h:StoreAt w base s d F B S) {j:Nat} (wl:Well B S j) (J:j<=90000) (c:S.st.gen<=100000) (f:1<=S.st.view/\S.st.view<=2147483647) (i:S.st.mode=1\/S.st.mode=2) :
 Calls prog 21 #[pq s] w fun e w'=>∃ u F' S',e=.returned (.tuple #[u,zz])/\w'.ownsRow w.heap.size 3 1 u (relO S.us S.lv 8).length (YL (relO S.us S.lv 8)) /\
  StoreAt w' base s d F' B S'/\Checked B S S'/\Keep F w w'/\Grow w F F':=by
 obtain⟨g,t,p,m,Fd,Ft,Fw,Fm,L0,L1,h,rfl⟩:=h;have K:=wl.good.cap.lsn;have L:=wl.good.cap.acts;refine(Zl h wl.good.cap.ok Z Z wl.ext.slot wl.ext.lie0 wl.ext.lie1 (VAG wl.pos wl.good wl.ext Z c f i)).mono ?_;rintro e w' ⟨u,n,M,k,Fw',l,o,r,v,y,D',z,A,rfl,a,b,C,D,E,G,H,I,rfl,rfl⟩;rw[b.relO] at a;exact⟨u,_,_,rfl,a,⟨g,t,p,m,k,Ft,Fw',Fm,l,o,G,rfl⟩,⟨r,v,y,D',z,A,b,C,D,E,rfl⟩,H,I⟩
section
variable (w:World) (base s d:Nat) (F:List Nat) (B:Nat) (S:PS) (h:StoreAt w base s d F B S) (j:Nat) (wl:Well B S j)
include h wl
theorem KBQ (M:j<=90000):cr 103 #[pq s] w (.bool (ZAA S)):=by
 obtain⟨g,t,p,m,Fd,Ft,Fw,Fm,L0,L1,h,rfl⟩:=h;have f:=GeomS_is w base s d g t p m Fd Ft Fw Fm L0 L1 B S h;have r:=fun W (i:kz w W)=>TableS_is W base s d g t p m Fd Ft Fw Fm L0 L1 B S (h.kO i);have l:=PosS_is w base s d g t p m Fd Ft Fw Fm L0 L1 B S h;have D:=wl.good.cap.lsn;have n:=fun W (i:kz w W)=>XAz S.W.pos.lsn (h.kO i).log.tab (h.log.geom.kO i) Z (fun u E=>(wl.ext.segs.2.1 u E).2) (fun k=>LiveOk.small wl.ext.liv wl.good k);have y:=fun W (i:kz w W)=>Qw (h.kO i).log.tab;have N:=fun(F G H I J:Value) W=>QE (P:=prog) underlying49 2 rfl isAgg3 #[F,G,H,I,J] rfl W;have z:ZAA S=((Kq S.us S.lv S.W.pos.lsn).isSome && decide (YD S.us<=2)):=rfl;rw[z];have c:=r w kq;clear h wl D z;generalize Kq S.us S.lv S.W.pos.lsn=pk at *;generalize S.W.pos=P at *;obtain⟨O,Q,R,T,U⟩:=P;simp only at *;generalize YD S.us=fc at *;rcases pk with _ | pk
 . go_enter func103,ntmps103
   go_wp2_with (first
    | (go_at_call 17;refine f.mono ?_;clear f;rintro e w' ⟨rfl,rfl⟩)
    | (go_at_call 14;refine c.mono ?_;clear c;rintro e w' ⟨rfl,rfl⟩)
    | (go_at_call 18;refine l.mono ?_;clear l;rintro e w1 ⟨rfl,a⟩)
    | (go_at_call 16;refine(n _ a).mono ?_;clear n;rintro e A ⟨rfl,b⟩))
   go_ret;exact⟨rfl,a.tO b⟩
 by_cases C:fc<=2
 . have K:((fc:Nat):Int)<=2:=Z
   go_enter func103,ntmps103
   go_wp2_with (first
    | (go_at_call 17;refine f.mono ?_;clear f;rintro e w' ⟨rfl,rfl⟩)
    | (go_at_call 14;refine c.mono ?_;clear c;rintro e w' ⟨rfl,rfl⟩)
    | (go_at_call 18;refine l.mono ?_;clear l;rintro e w1 ⟨rfl,a⟩)
    | (go_at_call 16;refine(n _ a).mono ?_;clear n;rintro e A ⟨rfl,b⟩;have c:=r _ (a.tO b);have o:=y _ (a.tO b))
    | (go_at_call 100;refine o.mono ?_;clear o;rintro e L ⟨rfl,v⟩))
   go_ret;exact⟨VF (by simp[C]),(a.tO b).tO v⟩
 have K:¬ ((fc:Nat):Int)<=2:=Z;go_enter func103,ntmps103
 go_wp2_with (first
  | (go_at_call 17;refine f.mono ?_;clear f;rintro e w' ⟨rfl,rfl⟩)
  | (go_at_call 14;refine c.mono ?_;clear c;rintro e w' ⟨rfl,rfl⟩)
  | (go_at_call 18;refine l.mono ?_;clear l;rintro e w1 ⟨rfl,a⟩)
  | (go_at_call 16;refine(n _ a).mono ?_;clear n;rintro e A ⟨rfl,b⟩;have c:=r _ (a.tO b);have o:=y _ (a.tO b))
  | (go_at_call 100;refine o.mono ?_;clear o;rintro e L ⟨rfl,v⟩))
 go_ret;exact⟨VF (by simp[C];omega),(a.tO b).tO v⟩
def ZBF (w w':World) (base s d:Nat) (F:List Nat) (B:Nat) (S:PS) (e:Ending):Prop:=
 (Kq S.us S.lv S.W.pos.lsn=none/\e=.returned (.tuple #[zz,zz,ii 5])/\kz w w') \/
 ∃ x T F' S',Kq S.us S.lv S.W.pos.lsn=some x/\ClList B S x.2.2 T/\StoreAt w' base s d F' B S'/\Keep F w w'/\Grow w F F' /\
   ((e=.returned (.tuple #[.int .i64 (x.2.2:Nat),.int .i64 (T.length:Nat),zz])/\Moves B S T S') \/
    (e=.returned (.tuple #[zz,zz,ii 6])/\∃ T1 T2,T=T1++T2/\Moves B S T1 S'/\Qg S'.us S'.W 1 true))
theorem VAU (hj:j<=89000):Calls prog 19 #[pq s] w fun e w'=>ZBF w w' base s d F B S e:=by
 have N:=h;obtain⟨g,t,p,m,Fd,Ft,Fw,Fm,L0,L1,h,bz⟩:=h;have O:=offC_is w base s d g t p m Fd Ft Fw Fm L0 L1 B S h;have a7:=fun W (b:kz w W)=>GeomS_is W base s d g t p m Fd Ft Fw Fm L0 L1 B S (h.kO b);have Q:=TableS_is w base s d g t p m Fd Ft Fw Fm L0 L1 B S h;have D:=PosS_is w base s d g t p m Fd Ft Fw Fm L0 L1 B S h;have ai:=wl.good.cap.lsn;have r:=fun W (b:kz w W)=>XAz S.W.pos.lsn (h.kO b).log.tab (h.log.geom.kO b) Z (fun u hu=>(wl.ext.segs.2.1 u hu).2) (fun k=>LiveOk.small wl.ext.liv wl.good k);have b8:=fun(b9 a8 a9 aa aj:Value) W=>QE (P:=prog) underlying49 2 rfl isAgg3 #[b9,a8,a9,aa,aj] rfl W;obtain⟨pk,G⟩:=ex (Kq S.us S.lv S.W.pos.lsn);rw[<- G] at r;have H:=a7 w kq;obtain⟨ak,R⟩:=ex S.W.pos;rw[<- R] at D r;have ab:=JB G;have c2:=JB R;rcases pk with _ | x
 . clear G R ai
   obtain⟨ba,bb,bc,bd,bf⟩:=ak;simp only at *;go_enter func19,ntmps19
   go_wp2_with (first
    | (go_at_call 89;refine O.mono ?_;clear O;rintro e w' ⟨rfl,rfl⟩)
    | (go_at_call 17;refine H.mono ?_;clear H;rintro e w' ⟨rfl,rfl⟩)
    | (go_at_call 14;refine Q.mono ?_;clear Q;rintro e w' ⟨rfl,rfl⟩)
    | (go_at_call 18;refine D.mono ?_;clear D;rintro e w1 ⟨rfl,E⟩)
    | (go_at_call 16;refine(r _ E).mono ?_;clear r;rintro e w2 ⟨rfl,c⟩))
   go_ret3;exact .inl ⟨(JA ab).symm,rfl,E.tO c⟩
 obtain⟨I,x2,x3,x4,x5⟩:=YBJ G.symm;obtain⟨al,bg,bh,hl,z⟩:=wl.cl I x2;obtain⟨v,V⟩:=ex x.2.2;have am:(Option.getD (some x) (0,0,0)).2.2=v:=V.symm;rw[am] at r;rw[<- V] at I x2 z al;obtain⟨p0,b0,an,ac,bi,ao⟩:=hl.begins v I (by unfold stOf;omega)
 have J:=fun W (b:kz w W)=>KAl (h.log.geom.kO b) (h.kO b).log.disk (h.kO b).img h.blen h.log.off h.log.many Z (fun k bj=>by
  rw[AC (by rw[wl.good.flen];exact bj),wl.good.flt _ (AQ _)]) an (fun y l=>by
  rw[ac] at l;obtain⟨a8,a9,aa,aj,bk⟩:=ao y l;exact⟨a8,a9,aa,fun i hi bl=>hl.own v I y.2 bk i hi bl⟩) Z
 rw[ac] at J;obtain⟨T,ap⟩:=ex (VO S.I B (placed (bg v) (bh v)));rw[<- ap] at J z;have bm:=z.len;have ar:=fun W (b:kz w W)=>DiskS_is W base s d g t p m Fd Ft Fw Fm L0 L1 B S (h.kO b);have au:=fun W (b:kz w W)=>ImageS_is W base s d g t p m Fd Ft Fw Fm L0 L1 B S (h.kO b);have av:=N.lt;have bn:=N.ge;have bo:Hid (StoreAt w base s d F B S):=N;have ad:=JB V;have ae:=JB z;have bp:Hid (Well B S j):=wl;have bq:=JB av;obtain⟨A,af⟩:=ex T.length;rw[<- af] at J bm;have X:=JB af;clear G R ai z hl an ao ap V am I x2 x3 x4 x5 al N h wl af av bn ac bi;obtain⟨ba,bb,bc,bd,bf⟩:=ak;simp only at D r;go_enter func19,ntmps19
 go_wp2_with (first
  | (go_at_call 89;refine O.mono ?_;clear O;rintro e w' ⟨rfl,rfl⟩)
  | (go_at_call 17;refine H.mono ?_;clear H;rintro e w' ⟨rfl,rfl⟩)
  | (go_at_call 14;refine Q.mono ?_;clear Q;rintro e w' ⟨rfl,rfl⟩)
  | (go_at_call 18;refine D.mono ?_;clear D;rintro e w1 ⟨rfl,E⟩)
  | (go_at_call 16
     refine(r _ E).mono ?_;clear r;rintro e w2 ⟨rfl,c⟩;replace c:=E.tO c;have H:=a7 _ c;have aw:=ar _ c
     have ax:=au _ c)
  | (go_at_call 91;refine aw.mono ?_;clear aw;rintro e w' ⟨rfl,rfl⟩)
  | (go_at_call 71;refine ax.mono ?_;clear ax;rintro e w' ⟨rfl,rfl⟩)
  | (go_at_call 90
     refine(J _ c).mono ?_;clear J;rintro e w3 ⟨U,rfl,ay,K⟩;replace K:=c.tO K;have n:=ZC ay c.size;obtain⟨ag,uc,rfl,_⟩:=ZB n))
 clear a7 ar au ay E c b8;go_loopw [2,41] (fun a i wr=>∃ (q:Nat) (F':List Nat) (S':PS),a=.int .i64 (v:Nat)/\q<=A/\i=.int .i64 (q:Nat)/\StoreAt wr base s d F' B S'/\Hid (Moves B S (T.take q) S')/\wr.ownsRow w.heap.size 164 2 (.slice ag A uc) A (T.flatMap blc)/\(∀ y∈(Value.slice ag A uc).ownBlock.toList,y∉F')/\Keep F w wr/\Grow w F F') (fun _ i _=>A-(intOf i).toNat)
 case atStart=>
  refine⟨0,F,S,rfl,AS _,rfl,(show StoreAt w base s d F B S from JA bo).kO K,Moves.nil,n,fun y l hm=>?_,K.zero,Grow.refl _ _⟩;have C:=(own_mem n l).1;have h2:=JA bq y hm;omega
 clear n K;obtain⟨q,F',S',rfl,hq,rfl,Y,L,n,az,a0,a1⟩:=hrel;by_cases br:q<A
 . have c4:((q:Nat):Int)<(A:Nat):=Z
   have a2:q<T.length:=by rw[<- JA X];exact br
   have b1:T.take (q+1)=T.take q++[T[q]]:=AO a2;have b2:T.drop q=T[q] :: T.drop (q+1):=BY a2;have z:ClList B S v T:=JA ae;obtain⟨w1,-,-,-,m1⟩:=(JA L).well (show Well B S j from JA bp) (by rw[BE];omega) (T.drop q) (by rw[Bp];exact z.ok);obtain⟨a3,ah⟩:=m1.1 T[q] (by rw[b2];exact .head _);rw[BE] at w1
   have bs:T[q].1<B/\T[q].2<100000:=by
    obtain⟨C,h2,h3⟩:=w1.good.ref a3 ah;have:=h3.hi;have:=(JD w1.good.b1 w1.good.b64).2;exact⟨C,Z⟩
   obtain⟨g1,rfl⟩:∃ g1,ag=some ⟨g1,0,none⟩:=by
    obtain⟨bt,c5,he,_⟩:=JE n Z;cases he;exact⟨bt,rfl⟩
   have a4:=Rd.of_ownN n;have c6:g1<wr.heap.size:=(own_mem n (g:=g1) (by simp[Value.ownBlock])).2;rw[JA X] at a4;have r0:=(KI (f:=blc) (fun _=>rfl) a4 a2 (j:=0) Z).2;have r1:=(KI (f:=blc) (fun _=>rfl) a4 a2 (j:=1) Z).2;have bu:=JB b1;have b3:=JB w1;have b4:=JB ah;have a5:=w1.room 1 true;clear b1 b2 z m1 w1 ah a4;generalize T[q]=y at *;obtain⟨yb,ya⟩:=y;simp only[blc,Bi,Bo,BV] at r0 r1 bs a3;have o:=(Keep.refl [] wr).alloc (.cells #[ii yb,ii ya] 164);have a6:=Y.kO o;have b5:=JB o;rcases a5 with a5 | b6
   . have M:=ZBJ a6 (JA b3).good a5 Z a3 (JA b4)
     clear Y a6 o;go_wp2_with (go_at_call 92;refine M.mono ?_;clear M;rintro e w5 ⟨rfl,bv,b7,C,h2,h3,h4⟩);go_roundw
     case rel=>
      have o:=JA b5;have bw:=o.zero.trans h3 (fun y l=>.inl l);refine⟨q+1,bv,b7,rfl,Z,by go_num,C,?_,XB n bw (fun y l=>az y (uq l)),fun y l hm=>?_,(a0.tO o).trans h3 a1,a1.trans a0.size (h4.keep o)⟩
      . show Moves B S (T.take (q+1)) b7
        rw[JA bu];exact Moves.snoc (JA L) a5 h2
      rcases h4 y hm with h5 | h5
      . exact az y l h5
      have:=(own_mem n l).2;have:=o.size;omega
     case measure=>simp[intOf];omega
   have M:=XBR a6 (JA b3).good b6 a3 (JA b4);clear Y o;go_wp2_with (go_at_call 92;refine M.mono ?_;clear M;rintro e w5 ⟨rfl,C⟩);go_ret3;refine .inr ⟨x,T,F',S',(JA ab).symm,by rw[<- JA ad];exact JA ae,a6.kO C,(a0.tO (JA b5)).tO C,a1,.inr ⟨rfl,T.take q,T.drop q,(Bp q T).symm,JA L,b6⟩⟩
 obtain rfl:q=A:=Z
 go_wp2
 go_ret3;have bx:T.take q=T:=AH (by have:=JA X;omega);rw[bx] at L;refine .inr ⟨x,T,F',S',(JA ab).symm,by rw[<- JA ad];exact JA ae,Y,a0,a1,.inl ⟨?_,JA L⟩⟩;rw[<- JA ad,<- JA X];rfl
end
theorem QBB {w:World} {base s d:Nat} {F:List Nat} {B:Nat} {S:PS} (h:StoreAt w base s d F B S) {j:Nat} (wl:Well B S j) (hj:j<=86000) (bg:S.st.gen<=90000) (O:1<=S.st.view/\S.st.view<=2147483647) (P:S.st.mode=1\/S.st.mode=2) :
 Calls prog 24 #[pq s] w fun e w'=>∃ (f:Nat) (F':List Nat) (S':PS),e=.returned (.tuple #[f,zz])/\StoreAt w' base s d F' B S'/\RoundEnd B S f S'/\Keep F w w'/\Grow w F F':=by
 have a2:cq 89 #[pq s] w (.bool false):=by
  obtain⟨g,t,p,m,Fd,Ft,Fw,Fm,L0,L1,h,bh⟩:=h;exact offC_is w base s d g t p m Fd Ft Fw Fm L0 L1 B S h
 have r:=Vy h wl Z Z O P;have J:=KAB S.us S.lv 8;have ao:Hid (Well B S j):=wl;have a3:=h.lt;have bi:=JB a3;have ap:=JB O;have ar:=JB P;clear wl h a3 O P;go_enter func24,ntmps24
 go_wp2_with (first
  | (go_at_call 89;refine a2.mono ?_;clear a2;rintro e w' ⟨rfl,rfl⟩)
  | (go_at_call 21
     refine r.mono ?_;clear r;rintro e w1 ⟨u,au,a4,rfl,K,h1,a5,a6,a7⟩;obtain⟨Q,R,rfl,T,U,_⟩:=ZB K))
 go_loopw [2,3,4,5] (fun a b c i wr=>∃ (n l k:Nat) (a8:Option Addr) (L:Nat) (F':List Nat) (S':PS),n<=64/\k<=8/\a=.int .i64 (l:Nat)/\b=.int .i64 0/\c=.slice a8 k L/\i=.int .i64 (n:Nat)/\k<=L/\L<=9223372036854775807/\StoreAt wr base s d F' B S'/\Hid (Rnd B S n (l+k) S')/\Keep F w wr/\Grow w F F') (fun _ _ _ i _=>64-(intOf i).toNat)
 case atStart=>exact⟨0,0,_,Q,R,au,a4,Z,J,rfl,rfl,rfl,rfl,T,U,h1,by show Rnd B S 0 (0+_) a4;rw[A6];exact Rnd.first a5,a6,a7⟩
 clear K h1 a5 a6 a7 J T U;obtain⟨n,l,k,a8,L,F',S',hn,bj,rfl,rfl,rfl,rfl,T,U,v,E,y,z⟩:=hrel;obtain⟨w1,-,-,M,f1⟩:=(JA E).well (show Well B S j from JA ao) Z;have bk:IntKind.i64.wrap (((l:Nat):Int)+(k:Nat))=((l+k:Nat):Int):=by rw[AK];omega
 have bl:S'.st.gen<=90100:=by rw[M];simp only;omega
 have a9:1<=S'.st.view/\S'.st.view<=2147483647:=by rw[M];exact JA ap
 have aa:S'.st.mode=1\/S'.st.mode=2:=by rw[M];exact JA ar
 have av:=JB a9;have aw:=JB aa;have ax:=JB w1;clear M a9 aa;by_cases ay:n=64
 . subst ay
   clear w1;go_wp2_with fail;go_ret2;exact⟨l+k,F',S',by first | (rw[BO];done) | (rw[BO];rfl),v,⟨64,Z,.inl ⟨JA E,.inl rfl⟩⟩,y,z⟩
 have az:¬ ((n:Nat):Int)=64:=Z;have bm:(((n:Nat):Int) == 64)=false:=uq az;have G:=KBQ wr base s d F' B S' v _ w1 Z;obtain⟨b,V⟩:=ex (ZAA S');rw[<- V] at G;have ab:=JB V;have r:=fun W (hk:kz wr W)=>VAU W base s d F' B S' (v.kO hk) _ w1 Z;clear V w1;cases b
 . clear r
   go_wp2_with (go_at_call 103;refine G.mono ?_;clear G;rintro e w2 ⟨rfl,o⟩);go_ret2;exact⟨l+k,F',S',by first | (rw[BO];done) | (rw[BO];rfl),v.kO o,⟨n,hn,.inl ⟨JA E,.inr (JA ab).symm⟩⟩,y.tO o,z⟩
 go_wp2_with (go_at_call 103;refine G.mono ?_;clear G;rintro e w2 ⟨rfl,o⟩;have ac:=r w2 o;clear r);have H:=(JA ab).symm
 have ad:(Kq S'.us S'.lv S'.W.pos.lsn).isSome=true:=by
  unfold ZAA at H;rw[BS] at H;exact H.1
 have ae:=JB H;have b0:=JB ad;have af:=v.lt;have bn:=JB af;clear H ad af;refine ac.mono ?_;clear ac v;rintro e w3 (⟨A,_⟩ | ⟨x,b1,b2,I,A,C,X,ag,ah,⟨rfl,D⟩ | ⟨rfl,b3,b4,ai,D,aj⟩⟩)
 . have h9:=JA b0
   rw[A] at h9;cases h9
 . have Y:=JB A
   have a0:=JB C;have a1:=JB D;have b5:=C.len;obtain⟨ak,-,-,N,-⟩:=D.well (JA ax) Z [] (by rw[Ba];exact C.ok);have al:=Vy X ak Z (by rw[N];omega) (by rw[N];exact JA av) (by rw[N];exact JA aw);have J:=KAB I.us I.lv 8;clear A C D ak N b5 X
   go_wp2_with (
    go_at_call 21
    refine al.mono ?_;clear al;rintro e w4 ⟨u,b6,b7,rfl,K,h4,b8,b9,ba⟩;obtain⟨Q,R,rfl,bb,bc,_⟩:=ZB K)
   go_roundw
   case rel=>
    have am:=(y.tO o).trans ag z;have an:=z.trans y.size (ah.keep o);exact⟨n+1,l+k,(relO I.us I.lv 8).length,Q,R,b6,b7,Z,J,by first | (rw[BO];done) | (rw[BO];rfl),rfl,rfl,by go_num,bb,bc,h4,Rnd.more (JA E) (JA ae) (JA Y) (JA a0) (JA a1) b8,am.trans b9 an,an.trans am.size ba⟩
   case measure=>simp[intOf];omega
 have Y:=JB A;have a0:=JB C;have a1:=JB D;have bd:=JB aj;have bf:=JB ai;clear A C D aj ai;go_wp2_with fail;go_ret2;exact⟨l+k,b2,I,by first | (rw[BO];done) | (rw[BO];rfl),X,⟨n,hn,.inr ⟨Z,S',x,b1,b3,b4,JA E,JA ae,JA Y,JA a0,JA bf,JA a1,JA bd⟩⟩,(y.tO o).trans ag z,z.trans y.size (ah.keep o)⟩
namespace FrP
variable {w0 w w':World} {B f r s d x:Nat} {Fs:List Nat} {S:PS}
theorem writeG (h:FrP w0 w B f r s d x Fs S) (j:Nat) (wl:Well B S j) (F:j<=86000) (b:Nat) (g:b<B) (A:Option Addr) (c:Nat) (bs:List UInt8) (k:Rd w A 64 (bys bs)) (t:∀ x,A=some x->x.block∉Fs) (u:VU bs) :
 Calls prog 165 #[pq f,b,.slice A 64 c] w fun e w'=>∃ (q:Nat) (F':List Nat) (S':PS),e=.returned q/\(q=0/\QD B S'=(QD B S).set b bs\/q=6/\QD B S'=QD B S)/\FrP w0 w' B f r s d x F' S'/\Well B S' (j+1)/\S'.st=S.st/\Keep Fs w w'/\Grow w Fs F':=by
 have l:=VN w f r s x h.blk h.rblk;have v:bs.length=64:=uq k.1;have y:=wl.good.b64
 have m:Calls prog 120 #[pq s,b,.slice A 64 c] w fun e w'=>∃ (q:Nat) (F':List Nat) (S':PS),e=.returned q/\(q=0/\QD B S'=(QD B S).set b bs\/q=6/\QD B S'=QD B S)/\FrP w0 w' B f r s d x F' S'/\Well B S' (j+1)/\S'.st=S.st/\Keep Fs w w'/\Grow w Fs F':=by
  rcases wl.room 1 false with n | z
  . refine(ZAf h.st wl.good n Z h.mode b g c bs k t).mono ?_
    rintro e w1 ⟨rfl,F',S',i,C,a,o⟩;obtain⟨D,E,_,p⟩:=wl.put C (wl.frees n) Z g v u;exact⟨0,F',S',rfl,.inl ⟨rfl,E⟩,h.turn i a o (by rw[p];exact h.mode),D,p,a,o⟩
  refine(QBj w _ s d Fs B S h.st wl.good.cap.ok h.mode b g y A c z).mono ?_;rintro e w1 ⟨rfl,a⟩;exact⟨6,Fs,S,rfl,.inr ⟨rfl,rfl⟩,h.kO a,wl.later Z,rfl,a.zero,Grow.refl _ _⟩
 go_enter func165,ntmps165
 go_wp2_with (first
  | (go_at_call 170;refine l.mono ?_;clear l;rintro e w' ⟨rfl,rfl⟩)
  | (go_at_call 120;refine m.mono ?_;clear m;rintro e w1 ⟨q,F',S',rfl,i⟩))
 go_ret;exact⟨q,F',S',rfl,i⟩
theorem trimG (h:FrP w0 w B f r s d x Fs S) (j:Nat) (wl:Well B S j) (A:j<=86000) (b n:Nat) (c:1<=n) (g:b+n<=B) :
 Calls prog 173 #[pq f,b,n] w fun e w'=>∃ (q:Nat) (F':List Nat) (S':PS),e=.returned q/\(q=0/\QD B S'=XP (QD B S) b n zeros64\/q=6/\QD B S'=QD B S)/\FrP w0 w' B f r s d x F' S'/\Well B S' (j+1)/\S'.st=S.st/\Keep Fs w w'/\Grow w Fs F':=by
 have k:=VN w f r s x h.blk h.rblk;have t:=wl.good.b64
 have l:Calls prog 122 #[pq s,b,n] w fun e w'=>∃ (q:Nat) (F':List Nat) (S':PS),e=.returned q/\(q=0/\QD B S'=XP (QD B S) b n zeros64\/q=6/\QD B S'=QD B S)/\FrP w0 w' B f r s d x F' S'/\Well B S' (j+1)/\S'.st=S.st/\Keep Fs w w'/\Grow w Fs F':=by
  rcases wl.room 0 false with m | u
  . refine(KAw h.st wl.good m Z h.mode b n c g).mono ?_
    rintro e w1 ⟨rfl,F',S',i,v,a,o⟩;obtain⟨y,z,_,p⟩:=wl.dropped v (wl.frees m) Z c g;exact⟨0,F',S',rfl,.inl ⟨rfl,z⟩,h.turn i a o (by rw[p];exact h.mode),y,p,a,o⟩
  refine(JBX w _ s d Fs B S h.st wl.good.cap.ok h.mode b n c g t u).mono ?_;rintro e w1 ⟨rfl,a⟩;exact⟨6,Fs,S,rfl,.inr ⟨rfl,rfl⟩,h.kO a,wl.later Z,rfl,a.zero,Grow.refl _ _⟩
 go_enter func173,ntmps173
 go_wp2_with (first
  | (go_at_call 170;refine k.mono ?_;clear k;rintro e w' ⟨rfl,rfl⟩)
  | (go_at_call 122;refine l.mono ?_;clear l;rintro e w1 ⟨q,F',S',rfl,i⟩))
 go_ret;exact⟨q,F',S',rfl,i⟩
theorem flushG (h:FrP w0 w B f r s d x Fs S) (j:Nat) (wl:Well B S j) (o:j<=86000) :
 Calls prog 169 #[pq f] w fun e w'=>∃ (F':List Nat) (S':PS),e=.returned zz/\QD B S'=QD B S/\FrP w0 w' B f r s d x F' S'/\Well B S' (j+1)/\S'.st=S.st/\Keep Fs w w'/\Grow w Fs F':=by
 have a:=VN w f r s x h.blk h.rblk;have b:=QBS w _ s d Fs B S h.st wl.good.cap.ok h.mode 100 j wl.good Z;go_enter func169,ntmps169
 go_wp2_with (first
  | (go_at_call 170;refine a.mono ?_;clear a;rintro e w' ⟨rfl,rfl⟩)
  | (go_at_call 124;refine b.mono ?_;clear b;rintro e w1 ⟨rfl,F',S',k,l,c,g⟩))
 go_ret;obtain⟨m,n,_,i⟩:=wl.synced l Z;exact⟨F',S',rfl,n,h.turn k c g (by rw[i];exact h.mode),m,i,c,g⟩
theorem checkG (h:FrP w0 w B f r s d x Fs S) (j:Nat) (wl:Well B S j) (v:j<=86000) (y:S.st.gen<=90000) (k:1<=S.st.view/\S.st.view<=2147483647) :
 Calls prog 174 #[pq f] w fun e w'=>∃ (n:Nat) (F':List Nat) (S':PS),e=.returned (.tuple #[n,zz])/\QD B S'=QD B S/\FrP w0 w' B f r s d x F' S'/\Well B S' (j+1)/\S'.st={ S.st with gen:=S.st.gen+1 }/\Keep Fs w w'/\Grow w Fs F':=by
 have a:=VN w f r s x h.blk h.rblk;have b:=Vy h.st wl Z Z k (.inr h.mode);go_enter func174,ntmps174
 go_wp2_with (first
  | (go_at_call 170;refine a.mono ?_;clear a;rintro e w' ⟨rfl,rfl⟩)
  | (go_at_call 21;refine b.mono ?_;clear b;rintro e w1 ⟨u,F',S',rfl,l,m,o,c,g⟩;obtain⟨z,A,rfl,_⟩:=ZB l))
 go_ret2;obtain⟨p,t,_,i⟩:=wl.checked o Z;exact⟨_,F',S',rfl,t,h.turn m c g (by rw[i];exact h.mode),p,i,c,g⟩
theorem cleanG (h:FrP w0 w B f r s d x Fs S) (j:Nat) (wl:Well B S j) (z:j<=86000) :
 Calls prog 175 #[pq f] w fun e w'=>∃ (v n q:Nat) (F':List Nat) (S':PS),e=.returned (.tuple #[v,n,q])/\(q=0\/q=5\/q=6)/\QD B S'=QD B S/\FrP w0 w' B f r s d x F' S'/\Well B S' (j+23)/\S'.st=S.st/\Keep Fs w w'/\Grow w Fs F':=by
 have o:=VN w f r s x h.blk h.rblk
 have p:Calls prog 19 #[pq s] w fun e w'=>∃ (v n q:Nat) (F':List Nat) (S':PS),e=.returned (.tuple #[v,n,q])/\(q=0\/q=5\/q=6)/\QD B S'=QD B S/\FrP w0 w' B f r s d x F' S'/\Well B S' (j+23)/\S'.st=S.st/\Keep Fs w w'/\Grow w Fs F':=by
  refine(VAU w _ s d Fs B S h.st j wl Z).mono ?_;rintro e w1 (⟨_,rfl,a⟩ | ⟨y,T,F',S',A,c,g,a,i,⟨rfl,k⟩ | ⟨rfl,C,u,rfl,k,D⟩⟩)
  . exact⟨0,0,5,Fs,S,rfl,Z,rfl,h.kO a,wl.later Z,rfl,a.zero,Grow.refl _ _⟩
  . have t:=c.len
    obtain⟨l,m,_,b,_⟩:=k.well wl Z [] (by rw[Ba];exact c.ok);exact⟨_,_,0,F',S',rfl,Z,m,h.turn g a i (by rw[b];exact h.mode),l.later Z,b,a,i⟩
  have t:=c.len;rw[AE] at t;obtain⟨l,m,_,b,_⟩:=k.well wl Z u c.ok;exact⟨0,0,6,F',S',rfl,Z,m,h.turn g a i (by rw[b];exact h.mode),l.later Z,b,a,i⟩
 go_enter func175,ntmps175
 go_wp2_with (first
  | (go_at_call 170;refine o.mono ?_;clear o;rintro e w' ⟨rfl,rfl⟩)
  | (go_at_call 19;refine p.mono ?_;clear p;rintro e w1 ⟨v,n,q,F',S',rfl,g⟩))
 go_ret3;exact⟨v,n,q,F',S',rfl,g⟩
theorem roundG (h:FrP w0 w B f r s d x Fs S) (j:Nat) (wl:Well B S j) (y:j<=86000) (l:S.st.gen<=90000) (m:1<=S.st.view/\S.st.view<=2147483647) :
 Calls prog 176 #[pq f] w fun e w'=>∃ (n:Nat) (F':List Nat) (S':PS),e=.returned (.tuple #[n,zz])/\QD B S'=QD B S/\FrP w0 w' B f r s d x F' S'/\Well B S' (j+1600)/\(∃ g,g<=65/\S'.st={ S.st with gen:=S.st.gen+g })/\Keep Fs w w'/\Grow w Fs F':=by
 have a:=VN w f r s x h.blk h.rblk;have b:=QBB h.st wl Z l m (.inr h.mode);go_enter func176,ntmps176
 go_wp2_with (first
  | (go_at_call 170;refine a.mono ?_;clear a;rintro e w' ⟨rfl,rfl⟩)
  | (go_at_call 24;refine b.mono ?_;clear b;rintro e w1 ⟨n,F',S',rfl,o,p,c,i⟩))
 go_ret2;obtain⟨t,u,_,g,v,k⟩:=p.well wl Z;exact⟨n,F',S',rfl,u,h.turn o c i (by rw[k];exact h.mode),t,⟨g,v,k⟩,c,i⟩
end FrP
theorem FrP.keepO {w0 w w':World} {B f r s d x g:Nat} {Fs:List Nat} {S:PS} (h:FrP w0 w B f r s d x Fs S) (a:Keep [g] w w') (c:g∉Fs) (e:f≠g) (i:r≠g) (k:w0.heap.size<=g):FrP w0 w' B f r s d x Fs S:=
 ⟨h.blk.keep a (uq e),h.rblk.keep a (uq i),h.st.keep a (fun x j b=>by simp at b;subst b;exact c j),h.fs,h.rs,h.kept.trans a iq,h.mode⟩
structure DoneIs (w0 w w':World) (B f r s d x N:Nat) (Fs:List Nat) (S:PS) (j:Nat) (q:Nat) (V:Value) (ls:List (Value×List UInt8)) (F':List Nat) (S':PS):Prop where
 e:q=0\/q=5\/q=6
 fr:FrP w0 w' B f r s d x F' S'
 rows:RHold w' N F' V ls
 base:ls.map (·.2)=QD B S'
 well:Well B S' (j+1600)
 gen:S'.st.gen<=S.st.gen+65
 view:S'.st.view=S.st.view
 keep:Keep Fs w w'
 grow:Grow w Fs F'
theorem VBh {w0 w:World} {B f r s d x N:Nat} {Fs:List Nat} {S:PS} (h:FrP w0 w B f r s d x Fs S) {j:Nat} (wl:Well B S j) (hj:j<=84000) (cr:S.st.gen<=80000) (hv:1<=S.st.view/\S.st.view<=2147483647) (l I J G:Int) (bh:Option Addr) (P:Nat) {ls:List (Value×List UInt8)} (a1:RHold w N Fs (.slice bh B P) ls) (hb:ls.map (·.2)=QD B S) (cb:N<=w.heap.size) :
 Calls prog 62 #[pq f,.agg #[ii l,ii I,ii J,ii G],.slice bh B P] w fun e w'=>∃ (q:Nat) (bi:Value) (ls':List (Value×List UInt8)) (F':List Nat) (S':PS),e=.returned (.tuple #[(q:Nat),bi])/\DoneIs w0 w w' B f r s d x N Fs S j q bi ls' F' S':=by
 have cs:=wl.good.b1;have ct:=wl.good.b64
 have b3:ls.length=B:=by
  have:=congrArg List.length hb;rw[BR] at this;rw[this];unfold QD;rw[BR,wl.good.bl]
 obtain⟨b,bj,T⟩:∃ b:Nat,I % (B:Nat)=(b:Int)/\b<B:=⟨(I % (B:Nat)).toNat,by have:=Bl I (b:=(B:Nat)) Z;omega,by have:=Bl I (b:=(B:Nat)) Z;have:=B9 I (b:=(B:Nat)) Z;omega⟩;obtain⟨n,bk,cc⟩:∃ n:Nat,J % ((B:Nat)-(b:Nat))=(n:Int)/\b+(1+n)<=B:=⟨(J % ((B:Nat)-(b:Nat))).toNat,by have:=Bl J (b:=(B:Nat)-(b:Nat)) Z;omega,by have:=Bl J (b:=(B:Nat)-(b:Nat)) Z;have:=B9 J (b:=(B:Nat)-(b:Nat)) Z;omega⟩;have bl:∀ W,cq 25 #[ii I,B] W b:=fun W=>by rw[<- bj];exact VW I B W Z Z
 have ae:∀ W,cq 25 #[ii J,ii ((B:Nat)-(b:Nat))] W n:=fun W=>by rw[<- bk];exact VW J _ W Z Z
 have cu:((b:Nat):Int)<(B:Nat):=Z;have cv:IntKind.i64.wrap (1+(n:Nat):Int)=((1+n:Nat):Int):=by rw[AK];omega
 have cw:IntKind.i64.wrap ((B:Nat)-(b:Nat):Int)=(B:Nat)-(b:Nat):=by rw[AK];omega
 have bm:=a1.rws rfl;have b4:=a1.row;rw[b3] at b4;obtain⟨U,cx,cd,_,_⟩:=JE b4 Z;cases cd;have bn:=h.st.lt;have b5:=JB bn;have D:=JB b3;have K:=JB hb;have a6:Hid (Well B S j):=wl
 -- the row that is laid anew
 obtain⟨E,ar⟩:=ex (w.alloc (.cells #[ii l,ii I,ii J,ii G] 118));have af:kz w E:=by rw[ar];exact kq.alloc _
 have ab:Blk E w.heap.size 118 #[ii l,ii I,ii J,ii G]:=by rw[ar];exact Blk.new w _ _
 have k0:cl E w.heap.size (ii l):=uq (ab.cell 0);have k1:cl E (aq w.heap.size 1) (ii I):=uq (ab.cell 1);have k2:cl E (aq w.heap.size 2) (ii J):=uq (ab.cell 2);have T:=ab.lt;have bo:(E.alloc (.cells #[] 66)).ownsRow E.heap.size 66 1 (.slice (some E.heap.size) 0 0) 0 []:=World.ownsRow_made _ _ _ (AG _) (by simp[maxLen]) rfl;have ag:kz E (E.alloc (.cells #[] 66)):=kq.alloc _
 have bp:Rd (E.alloc (.cells #[] 66)) (some U) (B*1) (ls.map (·.1)):=by
  have:=(bm.1.keep af).keep ag;simpa using this
 have bq:∀ u∈ls.map (·.1),u.oneCell'=true:=fun u hu=>by
  obtain⟨q,Q,rfl⟩:=Cv.1 hu;exact XAb (a1.dat q Q).2
 have ce:l=1\/l=2\/l=3\/l=4\/l=5\/l=6\/(¬ l=1/\¬ l=2/\¬ l=3/\¬ l=4/\¬ l=5/\¬ l=6):=Z;have ah:Hid (RHold w N Fs (.slice (some U) B P) ls):=a1;have br:Hid (FrP w0 w B f r s d x Fs S):=h;clear bm b4 a1 bj bk b3 hb wl h bn;go_enter func62,ntmps62;go_wp2_with fail;rw[<- ar];clear ar
 go_wp2_with (first
  | (go_at_call 25;refine(bl _).mono ?_;clear bl;rintro e w' ⟨rfl,rfl⟩)
  | (go_at_call 25;refine(ae _).mono ?_;clear ae;rintro e w' ⟨rfl,rfl⟩)
  | (at_builtin;refine elemRowsM.wp_app rfl _ _ rfl E.heap.size _ 0 [] rfl bo ⟨U,0,none⟩ B P (ls.map (·.1)) rfl bp bq Z Z ag.size ?_))
 intro cy t au b6 cf _
 have o:kz w t:=(af.tO ag).trans b6 (fun x hx=>by
  simp[Value.ownBlock] at hx;subst hx;exact .inr af.size)
 have bs:kz E t:=ag.trans b6 (fun x hx=>by
  simp[Value.ownBlock] at hx;subst hx;exact .inr (AG _))
 obtain⟨a,F,rfl,cz,_⟩:=JE au Z
 have d0:w.heap.size<=a:=by
  have h1:=(own_mem au (g:=a) (by simp[Value.ownBlock])).1;have:=af.size;omega
 have ae:RHold t N Fs (.slice (some a) B F) ls:=by
  have a1:=(show RHold w N Fs (.slice (some U) B P) ls from JA ah).kO o;refine⟨?_,a1.dat,fun x hx H=>?_,a1.offs⟩
  . rw[JA D]
    exact ZC au (AA cb af.size)
  simp[Value.ownBlock] at hx;subst hx;have:=JA b5 x H;omega
 have av:=ab.kO bs;have v:FrP w0 t B f r s d x Fs S:=(show FrP w0 w B f r s d x Fs S from JA br).kO o;have bt:w.heap.size∉Fs:=fun H=>by have:=JA b5 _ H;omega
 have bu:=fun W=>Vo G W
 have bv:f≠a/\r≠a/\w0.heap.size<=a:=by
  have h9:FrP w0 w B f r s d x Fs S:=JA br;have h1:=h9.blk.lt;have h2:=h9.rblk.lt;have L:=h9.kept.size;omega
 have V:=JB bv;clear bv
 have bw:(∀ y∈(Value.slice (some U) B P).ownBlock.toList,y≠a)/\∀ q∈ls,∀ y∈q.1.ownBlock.toList,y≠a:=by
  have h9:RHold w N Fs (.slice (some U) B P) ls:=JA ah;exact⟨fun y k=>by have:=(own_mem h9.row k).2;omega,fun q Q y k=>by have:=(own_mem (h9.dat q Q).2 k).2;omega⟩
 have aw:=JB bw;clear bw;have a7:=JB ae;have a8:=JB v;have cg:=JB bt;clear au b6 cf ag bo bp bq k0 k1 k2 bs ae v ab T bt;have k0:cl t w.heap.size (ii l):=uq (av.cell 0);have k3:cl t (aq w.heap.size 3) (ii G):=uq (av.cell 3);have kl:=av.lt;rcases ce with rfl | rfl | rfl | rfl | rfl | rfl | ⟨d1,d2,d3,d4,d5,d6⟩
 . have bx:=bu t
   have v:FrP w0 t B f r s d x Fs S:=JA a8
   go_wp2_with (
    go_at_call 28
    refine bx.mono ?_;clear bx;rintro e w3 ⟨u,rfl,hu,p⟩;obtain⟨ch,uc,rfl,_⟩:=ZB hu
    have bz:=(v.kO p).writeG j (JA a6) Z b T ch uc (VR G) (Rd.of_own hu) (fun y k H=>by
     have h1:=(own_mem hu (g:=y.block) (by rw[k];simp[Value.ownBlock])).1;have h2:=JA b5 _ H;have L:=o.size;omega) (ZAd G))
   refine bz.mono ?_;clear bz v;rintro e R ⟨q,F',S',rfl,Q,h4,ai,X,a2,a9⟩;have c2:=(av.kO p).keep a2 (JA cg);have d7:cl R (aq w.heap.size 3) (ii G):=uq (c2.cell 3);have d8:=c2.lt;have ax:=bu R;have a3:=((show RHold t N Fs (.slice (some a) B F) ls from JA a7).kO p).turn a2 a9;have aj:=(((show RHold w N Fs (.slice (some U) B P) ls from JA ah).kO o).kO p).turn a2 a9;have ac:Keep Fs w R:=(o.tO p).zero.trans a2 (fun y k=>.inl k);have ak:Grow w Fs F':=a9.keep (o.tO p);have al:=h4.st.lt;have ay:a∉F':=a3.off a (by simp[Value.ownBlock]);have az:N<=R.heap.size:=by have:=ac.size;omega
   have b0:=JB al;have c4:=JB a3;have b7:=JB aj;have b1:=JB h4;clear al aj k0 k3 hu h4;rcases Q with⟨rfl,M⟩ | ⟨rfl,M⟩
   . have am:=JB M
     clear M
     go_wp2_with (
      go_at_call 28
      refine ax.mono ?_;clear ax;rintro e w5 ⟨u2,rfl,aa,a4⟩;obtain⟨b8,b9,rfl,_⟩:=ZB aa;have an:=a3.kO a4;have z:=an.row;rw[JA D] at z;have f5:=XI z b;have e5:cl w5 (aq a b) (ls[b]'(by rw[JA D];exact T)).1:=QJ z (by rw[Aa,AC (by rw[JA D];exact T)];rfl);have c5:=(own_mem z (g:=a) (by simp[Value.ownBlock])).2)
     go_ret2
     obtain⟨ao,Y⟩:=an.set (b:=b) (c:=F) (by rw[JA D]) (by rw[JA D];exact T) (.slice b8 64 b9) (VR G) (length_fillOf G) (ZC aa az) (fun y k H=>by
      have h1:=(own_mem aa k).1;have h2:=JA b0 y H;omega)
     refine⟨0,_,_,F',S',rfl,.inl rfl,?_,ao,?_,ai.later Z,by rw[X];omega,by rw[X],?_,ak⟩
     . exact((JA b1).kO a4).keepO Y ay (JA V).1 (JA V).2.1 (JA V).2.2
     . rw[CV,JA K,JA am]
     exact(ac.tO a4).trans Y iq
   have am:=JB M;clear M
   go_wp2_with (
    go_at_call 28
    refine ax.mono ?_;clear ax;rintro e w5 ⟨u2,rfl,aa,a4⟩;obtain⟨b8,b9,rfl,_⟩:=ZB aa;have an:=a3.kO a4;have z:=an.row;rw[JA D] at z;have f5:=XI z b;have e5:cl w5 (aq a b) (ls[b]'(by rw[JA D];exact T)).1:=QJ z (by rw[Aa,AC (by rw[JA D];exact T)];rfl);have c5:=(own_mem z (g:=a) (by simp[Value.ownBlock])).2)
   go_ret2
   obtain⟨ao,Y⟩:=an.set (b:=b) (c:=F) (by rw[JA D]) (by rw[JA D];exact T) (.slice b8 64 b9) (VR G) (length_fillOf G) (ZC aa az) (fun y k H=>by
    have h1:=(own_mem aa k).1;have h2:=JA b0 y H;omega)
   refine⟨6,_,_,F',S',rfl,.inr (.inr rfl),?_,((JA b7).kO a4).keepO Y (JA aw).1 (JA aw).2,?_,ai.later Z,by rw[X];omega,by rw[X],?_,ak⟩
   . exact((JA b1).kO a4).keepO Y ay (JA V).1 (JA V).2.1 (JA V).2.2
   . rw[JA K,JA am]
   exact(ac.tO a4).trans Y iq
 . have v:FrP w0 t B f r s d x Fs S:=JA a8
   have ba:=v.trimG j (JA a6) Z b (1+n) Z cc;rw[BO] at ba;go_wp2_with fail;refine ba.mono ?_;clear ba v;rintro e R ⟨q,F',S',rfl,Q,h4,ai,X,a2,a9⟩;have a3:=(show RHold t N Fs (.slice (some a) B F) ls from JA a7).turn a2 a9;have aj:=((show RHold w N Fs (.slice (some U) B P) ls from JA ah).kO o).turn a2 a9;have ac:Keep Fs w R:=o.zero.trans a2 (fun y k=>.inl k);have ak:Grow w Fs F':=a9.keep o;have al:=h4.st.lt;have ay:a∉F':=a3.off a (by simp[Value.ownBlock]);have az:N<=R.heap.size:=by have:=ac.size;omega
   have b0:=JB al;have c4:Hid (RHold R N F' (.slice (some a) B F) ls):=a3;have b7:=JB aj;have b1:=JB h4;have am:=JB Q;clear al aj k0 k3 h4 a3 Q kl;go_wp2_with fail;go_loopw [12] (fun i wr=>∃ (m:Nat) (ls':List (Value×List UInt8)),m<=1+n/\i=.int .i64 ((b+m:Nat))/\RHold wr N F' (.slice (some a) B F) ls'/\Hid (ls'.map (·.2)=XP (ls.map (·.2)) b m zeros64)/\Keep [a] R wr) (fun i _=>b+(1+n)-(intOf i).toNat)
   case atStart=>exact⟨0,ls,Z,rfl,JA c4,(XAg _ _ _).symm,kq⟩
   obtain⟨m,ls',H,rfl,bb,bc,ad⟩:=hrel
   have c6:ls'.length=B:=by
    have:=congrArg List.length (JA bc);rw[BR,ZW,BR,JA D] at this;exact this
   have ap:=JB c6;clear c6;by_cases d9:m<1+n
   . have da:((b+m:Nat):Int)<(b:Nat)+(1+(n:Nat)):=Z
     have b2:b+m<B:=Z;have db:((b+m:Nat):Int)<(B:Nat):=Z;have dc:∀ W:World,(Instr.makeSlice 66 (.int .i64 64) (.int .i64 64)).run prog W=.ok (.slice (some (aq W.heap.size 0)) 64 64) (W.alloc (.cells (Array.replicate 64 (.int .u8 0)) 5)):=fun W=>elem8.run_make .i64 .i64 64 64 Z Z Z W;have c7:kz wr (wr.alloc (.cells (Array.replicate 64 (.int .u8 0)) 5)):=kq.alloc _;have hz:(wr.alloc (.cells (Array.replicate 64 (.int .u8 0)) 5)).ownsRow wr.heap.size 5 1 (.slice (some (aq wr.heap.size 0)) 64 64) 64 (bys zeros64):=XS (Blk.new wr 5 _) (AG _) Z sq (by simp[zeros64,bys];rfl);have bd:=bb.kO c7;have z:=bd.row;rw[JA ap] at z;have f5:=XI z (b+m);have e5:(wr.alloc (.cells (Array.replicate 64 (.int .u8 0)) 5)).cell? (aq a (b+m))=some (ls'[b+m]'(by rw[JA ap];exact b2)).1:=QJ z (by rw[Aa,AC (by rw[JA ap];exact b2)];rfl);have c5:=(own_mem z (g:=a) (by simp[Value.ownBlock])).2;have ci:=(own_mem bb.row (g:=a) (by simp[Value.ownBlock])).2;have cj:=JB hz;have ck:=JB bd;clear hz bd z;go_wp2_with fail;have cm:N<=wr.heap.size:=AA az ad.size;have dd:=ad.size
     obtain⟨ao,Y⟩:=(show RHold _ N F' (.slice (some a) B F) ls' from JA ck).set (b:=b+m) (c:=F) (by rw[JA ap]) (by rw[JA ap];exact b2) (.slice (some (aq wr.heap.size 0)) 64 64) zeros64 (by simp[zeros64]) (ZC (JA cj) cm) (fun y k H=>by
      simp[Value.ownBlock] at k;subst k;have:=JA b0 _ H;omega)
     rw[World.setCell_alloc_past _ _ _ _ ci] at ao Y;have cn:Keep [a] R (((wr.setCell (aq a (b+m)) (.slice (some (aq wr.heap.size 0)) 64 64))).alloc (.cells (Array.replicate 64 (.int .u8 0)) 5)):=(ad.tO c7).trans Y (fun y k=>.inl k);go_roundw
     case rel=>
      refine⟨m+1,ls'.set (b+m) (.slice (some (aq wr.heap.size 0)) 64 64,zeros64),Z,by go_num,ao,?_,cn⟩;show _=_;rw[CV,JA bc,<- VAd _ _ _ _ (by rw[BR,JA D];exact b2)]
     case measure=>simp[intOf];omega
   obtain rfl:m=1+n:=Z;have de:¬ ((b+(1+n):Nat):Int)<(b:Nat)+(1+(n:Nat)):=Z;have c8:FrP w0 wr B f r s d x F' S':=(JA b1).keepO ad ay (JA V).1 (JA V).2.1 (JA V).2.2;have c9:Keep Fs w wr:=ac.trans ad iq;have co:=(JA b7).keepO ad (JA aw).1 (JA aw).2;rcases(show q=0/\QD B S'=XP (QD B S) b (1+n) zeros64\/q=6/\QD B S'=QD B S from JA am) with⟨rfl,M⟩ | ⟨rfl,M⟩
   . have bf:=JB M
     clear M;go_wp2_with fail;go_ret2;exact⟨0,_,rfl,ls',F',S',.inl rfl,c8,bb,by rw[JA bc,JA K,JA bf],ai.later Z,by rw[X];omega,by rw[X],c9,ak⟩
   have bf:=JB M;clear M;go_wp2_with fail;go_ret2;exact⟨6,_,rfl,ls,F',S',.inr (.inr rfl),c8,co,by rw[JA K,JA bf],ai.later Z,by rw[X];omega,by rw[X],c9,ak⟩
 . have v:FrP w0 t B f r s d x Fs S:=JA a8
   have O:=v.flushG j (JA a6) Z;go_wp2_with (go_at_call 169;refine O.mono ?_;clear O;rintro e w3 ⟨F',S',rfl,a5,L,a0,A,p,C⟩);go_ret2;refine⟨0,_,ls,F',S',rfl,.inl rfl,L,(show RHold t N Fs (.slice (some a) B F) ls from JA a7).turn p C,by rw[JA K,a5],a0.later Z,by rw[A];omega,by rw[A],o.zero.trans p (fun y k=>.inl k),C.keep o⟩
 . have v:FrP w0 t B f r s d x Fs S:=JA a8
   have O:=v.checkG j (JA a6) Z Z hv;go_wp2_with (go_at_call 174;refine O.mono ?_;clear O;rintro e w3 ⟨nn,F',S',rfl,a5,L,a0,A,p,C⟩);go_ret2;refine⟨0,_,ls,F',S',rfl,.inl rfl,L,(show RHold t N Fs (.slice (some a) B F) ls from JA a7).turn p C,by rw[JA K,a5],a0.later Z,by rw[A];simp only;omega,by rw[A],o.zero.trans p (fun y k=>.inl k),C.keep o⟩
 . have v:FrP w0 t B f r s d x Fs S:=JA a8
   have O:=v.cleanG j (JA a6) Z;go_wp2_with fail;refine O.mono ?_;clear O;rintro e w3 ⟨vv,nn,q,F',S',rfl,Q,a5,L,a0,A,p,C⟩;have ca:=((show RHold w N Fs (.slice (some U) B P) ls from JA ah).kO o).turn p C;have cp:=(show RHold t N Fs (.slice (some a) B F) ls from JA a7).turn p C;have bg:=JB a5;clear a5;rcases Q with rfl | rfl | rfl
   . go_wp2_with fail
     go_ret2;exact⟨0,_,ls,F',S',rfl,.inl rfl,L,cp,by rw[JA K,JA bg],a0.later Z,by rw[A];omega,by rw[A],o.zero.trans p (fun y k=>.inl k),C.keep o⟩
   . go_wp2_with fail
     go_ret2;exact⟨5,_,ls,F',S',rfl,.inr (.inl rfl),L,ca,by rw[JA K,JA bg],a0.later Z,by rw[A];omega,by rw[A],o.zero.trans p (fun y k=>.inl k),C.keep o⟩
   go_wp2_with fail;go_ret2;exact⟨6,_,ls,F',S',rfl,.inr (.inr rfl),L,ca,by rw[JA K,JA bg],a0.later Z,by rw[A];omega,by rw[A],o.zero.trans p (fun y k=>.inl k),C.keep o⟩
 . have v:FrP w0 t B f r s d x Fs S:=JA a8
   have O:=v.roundG j (JA a6) Z Z hv;go_wp2_with (go_at_call 176;refine O.mono ?_;clear O;rintro e w3 ⟨nn,F',S',rfl,a5,L,a0,⟨gg,df,A⟩,p,C⟩);go_ret2;refine⟨0,_,ls,F',S',rfl,.inl rfl,L,(show RHold t N Fs (.slice (some a) B F) ls from JA a7).turn p C,by rw[JA K,a5],a0.later Z,by rw[A];simp only;omega,by rw[A],o.zero.trans p (fun y k=>.inl k),C.keep o⟩
 have d1:(l == 1)=false:=uq d1;have d2:(l == 2)=false:=uq d2;have d3:(l == 3)=false:=uq d3;have d4:(l == 4)=false:=uq d4;have d5:(l == 5)=false:=uq d5;have d6:(l == 6)=false:=uq d6;go_wp2_with fail;go_ret2;exact⟨0,_,ls,Fs,S,rfl,.inl rfl,JA a8,JA a7,JA K,(show Well B S j from JA a6).later Z,Z,rfl,o.zero,Grow.refl _ _⟩
def DeedsAt (w:World) (A:Option Addr) (len:Nat) (zs:List (Int×Int×Int×Int)):Prop:=
 zs.length=len/\(0<len->∃ ab ao,A=some ⟨ab,ao,none⟩/\ab<w.heap.size/\∀ i z,zs[i]? = some z->cl w (aq ab (ao+i*4)) (.int .i64 z.1)/\cl w (aq ab (ao+i*4+1)) (.int .i64 z.2.1) /\
  cl w (aq ab (ao+i*4+2)) (.int .i64 z.2.2.1)/\cl w (aq ab (ao+i*4+3)) (.int .i64 z.2.2.2))
theorem DeedsAt.kO {w w':World} {zs:List (Int×Int×Int×Int)} (h:DeedsAt w A len zs) (f:kz w w'):DeedsAt w' A len zs:=
 ⟨h.1,fun j=>by
   obtain⟨k,l,e,g,m⟩:=h.2 j
   exact⟨k,l,e,f.lt g,fun i z n=>by
    obtain⟨a,b,c,d⟩:=m i z n;exact⟨(f.cell g sq _).trans a,(f.cell g sq _).trans b,(f.cell g sq _).trans c,(f.cell g sq _).trans d⟩⟩⟩
theorem FrP.take_no {w0 w:World} {B f r s d x:Nat} {Fs:List Nat} {S:PS} (h:FrP w0 w B f r s d x Fs S) (v q:Nat) (j:1<=v/\v<=2147483647) (l:1<=q/\q<=2147483647) (A:Option Addr) (a:Nat) (g:Rd w A 25 (bys (QK 2 v q 0 1 0 0 []))) :
 cr 63 #[pq f,.slice A 25 a] w (.tuple #[zn,ii 7]):=
 QAK h.blk ((YAg (w:=w) (r:=r) (z:=7) (Jw r x h.rblk h.st h.mode) Z (k:=2) (v:=v) (b:=0) (c:=1) (e:=0) (dn:=0) (fs:=q) (xs:=[]) a ⟨Z,.inr (.inl ⟨rfl,Z,Z,Z,rfl,rfl,rfl⟩)⟩ g).mono (by rintro e w' ⟨rfl,i⟩;exact⟨_,_,rfl,rfl,i⟩))
theorem XAc (ai:Int) (cap:Nat) {zs:List (Int×Int×Int)} {aj:Option Addr} {t:Nat} (dc:Nat) {ds:List (Int×Int×Int×Int)} (H:Int) {w:World} (hz:PartsAt w A len zs) (d8:len<=9223372036854775807) (hd:DeedsAt w aj t ds) (d9:t<=9223372036854775807) :
 cr 9 #[ii ai,.slice A len cap,.slice aj t dc,ii H] w (.bool true):=by
 by_cases da:(20:Int)<(len:Nat)
 . go_enter func9,ntmps9
   go_wp2_with (refine(Vl _).mono ?_;rintro e w' ⟨rfl,m⟩);go_ret;exact⟨rfl,m⟩
 have db:len<=20:=Z;by_cases dd:(40:Int)<(t:Nat)
 . go_enter func9,ntmps9
   go_wp2_with (refine(Vl _).mono ?_;rintro e w' ⟨rfl,m⟩);go_ret;exact⟨rfl,m⟩
 have de:t<=40:=Z;have ak:=JAG ai w;obtain⟨qv,al,df⟩:∃ q:Nat,H % 50=(q:Int)/\q<50:=⟨(H % 50).toNat,Z,Z⟩;have bz:∀ W,cq 25 #[ii H,ii 50] W qv:=fun W=>by rw[<- al];exact VW H 50 W Z Z
 clear al;go_enter func9,ntmps9
 go_wp2_with (first
  | (go_at_call 55
     refine ak.mono ?_;clear ak;rintro e w1 ⟨B,rfl,-,C,dg,c2⟩;have a2:=Blk.new w1 28 #[B,ii 8,ii 24];have a3:kz w (w1.alloc (.cells #[B,ii 8,ii 24] 28)):=c2.alloc _
     have am:Calls prog 56 #[.agg #[B,ii 8,ii 24],ii 4] (w1.alloc (.cells #[B,ii 8,ii 24] 28)) _:=ZAV _ B 4 C Z Z Z)
  | (go_at_call 56
     refine am.mono ?_;clear am;rintro e w2 ⟨d,f,r,s,x,Fs,dh,D,od,rfl,I,J,an⟩;have ao:=PS.mounted_ext B D od;have ap:=KAV J an;have ar:(PS.mounted B D od).st.view=1/\(PS.mounted B D od).st.seq=0/\(PS.mounted B D od).st.epoch=0:=⟨rfl,rfl,rfl⟩;have au:=JB (show (PS.mounted B D od).st.gen=1 from rfl);have av:Stm B (XAV B zs) 0 (PS.mounted B D od):=ZBG J rfl rfl rfl rfl rfl;have aw:=a3.tO I.kept;have ax:=a2.kO I.kept;have U:cl w2 w1.heap.size B:=uq (ax.cell 0);have ay:=JAr B ⟨C,Z⟩ cap (hz.kO aw) Z;clear an
     generalize PS.mounted B D od=S2 at *)
  | (go_at_call 57
     refine ay.mono ?_;clear ay U;rintro e w3 ⟨OA,oc,oz,rfl,a4,az,b0⟩;have b1:=I.kO b0;have b2:=JBP len oc 4 OA zs b1 Z C Z ar J ao Z a4 (az.apart I.rep.lt);have a5:=JB a4
     clear a4)
  | (go_at_call 58
     refine b2.mono ?_;clear b2;rintro e w4 ⟨rfl,di,dj,L,b3,a6,b4,b5,c4,a7,b6,-,-⟩;have b7:=DoesL.stm ⟨C,Z⟩ zs av len L Z a7;have a8:=DoesL.well a7 J ap (by rw[Jo];omega) (QBI ⟨C,Z⟩ zs len Z);rw[Jo] at a8;have c5:L.st.gen<=1:=by have h9:=JA au;omega
     have b8:=b3.promote len (2*len) b4 b5 Z (by show L.st.gen<=100000;omega) 5 (by show L.st.view<5;have h9:=a6.1;omega) Z;have c6:=JB a6
     clear a6 c4 a7)
  | (go_at_call 59
     refine b8.mono ?_;clear b8;rintro e p ⟨rfl,V,M,O,b9,ba,bb⟩;have Q:=a8.2.raised b9 Z;have bc:=Q.1;have bd:M.st.view=5:=by rw[Q.2.2.2]
     have c7:M.st.gen<=2:=by rw[Q.2.2.2];show L.st.gen+1<=2;omega
     have bf:QD B M=(idl B (XAV B zs) len).base:=by rw[Q.2.1];exact b7.base
     have a9:=b6.turn ba (fun y hy=>by simp[YU,hy]) (F':=V) (fun y hy=>(bb y hy).imp (fun h=>by simp[YU,h]) id);have bg:=JB bf;clear bf Q a8 b7 ap))
 have U:cl p w1.heap.size B:=uq ((a2.kO O.kept).cell 0);have E:kz p p.drew:=(Keep.refl [] p).drew;have bh:=fun W (m:kz p W)=>ZBS B len oc OA zs Z C Z (JA a5) (a9.kO m);have bi:=fun W (m:kz p W)=>KBW (JO B zs len).2 ⟨C,Z⟩ Z (by have:=Xm B zs len;omega) (JBY ⟨C,Z⟩ zs Z) (fun j hj=>VBX ⟨C,Z⟩ zs Z) OA oc (a9.kO m) ((JA a5).trans (JBS B zs len));have aa:=(a2.kO O.kept).lt;have ab:∀ W,kz p W->cl W w1.heap.size B:=fun W m=>(m.cell aa sq _).trans U;clear U ax;refine ZT (fun W=>cl W w1.heap.size B) 5 [[0,1,2,4],[3]] (ab _ E) ?_;simp only[PI];iterate 4 refine wG ?_
 refine YB rq (fun K c8=>?_);go_wp2_with (refine(bh _ E).mono ?_;rintro e w' ⟨rfl,rfl⟩);refine c8 _ _ (ab _ E) ?_
 try simp only[Act.put,PU]
 refine KB ?_
 go_wp2_with (
  (refine(bi _ E).mono ?_)
  rintro e wc ⟨c9,rfl,ls,jj,R,bj,ca,X,bk,ac⟩)
 clear bh bi ab;have bl:ls.map (·.2)=QD B M:=by rw[bj,JA bg];exact YAh X (by rw[XBa];exact bk)
 have ad:=(O.kO E).kO ac;have ae:∀ g,p.heap.size<=g->g∉V:=fun g Y hm=>by have:=O.st.lt g hm;omega
 have bm:RHold wc p.heap.size V c9 ls:=⟨R.row,R.dat,fun g Y=>ae g (own_mem R.row Y).1,fun q hq g Y=>ae g (own_mem (R.dat q hq).2 Y).1⟩;have bn:p.heap.size<=wc.heap.size:=(E.tO ac).size;have bo:=hd.kO a3;have cb:=ad.st.lt;generalize cc:p.heap.size=N at *;clear bj ca bk X R ba bb a9 b6 b3 b1 I az b0 E ac av ar ao J b4 b5 b9 hz hd ae O cc c6 bg a5 au c5 aw;have bp:ds.length=t:=bo.1;have cd:=JB bp;clear bp;go_loopw [14,15,16,17,18,19] (fun ce i dk dl dm dn wr=>∃ (q:Nat) (F:List Nat) (S:PS) (l:List (Value×List UInt8)),q<=t/\i=.int .i64 (q:Nat)/\FrP (w1.alloc (.cells #[B,ii 8,ii 24] 28)) wr B f r s d x F S/\Well B S (1000+1600*q)/\S.st.gen<=10+65*q/\Hid (S.st.view=5)/\RHold wr N F ce l/\Hid (l.map (·.2)=QD B S)/\N<=wr.heap.size) (fun _ i _ _ _ _ _=>t-(intOf i).toNat)
 case atStart=>exact⟨0,V,M,ls,Z,rfl,ad,bc.later Z,Z,bd,bm,bl,bn⟩
 obtain⟨q,F,S,l,hq,rfl,G,hw,dp,a0,bq,hb,cf⟩:=hrel;clear ad bc bm bl bd c7 cb bn
 have hl:l.length=B:=by
  have:=congrArg List.length (JA hb);rw[BR] at this;rw[this];unfold QD;rw[BR,hw.good.bl]
 obtain⟨cg,vc,br,_⟩:=ZB bq.row;rw[hl] at br;subst br;by_cases ch:q<t
 . obtain⟨b,o,ci,dq,hc⟩:=(bo.kO G.kept).2 Z
   subst ci;have X:q<ds.length:=by rw[JA cd];exact ch
   obtain⟨cj,aa,ck,cm⟩:=hc q ds[q] (AC X);clear hc;generalize ds[q]=z at *;obtain⟨kd,zb,cn,zx⟩:=z;simp only at cj aa ck cm;have bs:=VBh G hw Z Z ⟨by rw[JA a0];omega,by rw[JA a0];omega⟩ kd zb cn zx cg vc bq (JA hb) cf;obtain⟨vq,dr,dt,du⟩:∃ v:Nat,1+((q:Nat):Int) % 7=(v:Int)/\1<=v/\v<=7:=⟨(1+((q:Nat):Int) % 7).toNat,Z,Z,Z⟩;have af:=fun W=>YAA vq (1+qv) (k:=2) (b:=0) (c:=1) (e:=0) (n:=0) 0 (A:=none) [] Z Z (.inr (.inl ⟨rfl,Z,Z,Z,rfl,rfl⟩)) (w:=W) (Rd.nil _ _) (AG _);simp only[BO] at af;go_wp2_with fail;refine bs.mono ?_;clear bs;rintro e w5 ⟨eq,dv,l5,co,cp,rfl,a⟩;obtain⟨dw,cs,bt,_⟩:=ZB a.rows.row
   have ct:l5.length=B:=by
    have:=congrArg List.length a.base;rw[BR] at this;rw[this];unfold QD;rw[BR,a.well.good.bl]
   rw[ct] at bt;subst bt;have cu:=a.e;have dx:=a.keep.size;rcases cu with rfl | rfl | rfl
   all_goals
    go_wp2_with (first
     | (go_at_call 25
        refine(bz _).mono ?_
        rintro e w' ⟨rfl,rfl⟩)
     | (go_at_call 64
        refine(af _).mono ?_;clear af;rintro e w6 ⟨u,rfl,bu,T⟩;obtain⟨cv,uc,rfl,_⟩:=ZB bu
        have bv:=(a.fr.kO T).take_no vq (1+qv) Z Z cv uc (Rd.of_own bu))
     | (go_at_call 63
        refine bv.mono ?_;clear bv;rintro e w7 ⟨rfl,a1⟩;have bw:=(a.rows.kO T).kO a1
        have bx:=VBU ((a.fr.kO T).kO a1) a.well.good (bw.rws rfl) a.base Z (c:=cs))
     | (go_at_call 65
        refine bx.mono ?_;clear bx;rintro e w8 ⟨rfl,ag⟩))
    go_roundw;case rel=>exact⟨q+1,co,cp,l5,Z,by go_num,((a.fr.kO T).kO a1).kO ag,a.well.later Z,by have:=a.gen;omega,a.view.trans (JA a0),bw.kO ag,a.base,by have:=((T.tO a1).tO ag).size;omega⟩
    case measure=>simp[intOf];omega
 obtain rfl:q=t:=Z;have ah:=KAH G.blk G.rblk (fun W m=>YO (G.st.kO m));rw[JA a0] at ah;have dy:=fun(cw cx cy cz d0 d1 d2 d3 d4 d5:Value) W=>QE (P:=prog) underlying58 1 rfl isAgg3 #[cw,cx,cy,cz,d0,d1,d2,d3,d4,d5] rfl W
 go_wp2_with (first
  | (go_at_call 66
     refine ah.mono ?_;clear ah
     rintro e wa ⟨rfl,d6⟩)
  | (go_at_call 54
     refine(Vl _).mono ?_;rintro e we ⟨rfl,d7⟩))
 go_ret;exact⟨rfl,((a3.tO G.kept).tO d6).tO d7⟩