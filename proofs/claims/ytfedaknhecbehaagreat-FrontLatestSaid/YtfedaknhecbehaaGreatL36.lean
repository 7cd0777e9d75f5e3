/- Lemmas of the proof, with their conditions. -/
import Derived.Test.YtfedaknhecbehaaGreatL35
namespace Go.Proofs.YtfedaknhecbehaaGreat
open Tryz
variable {w0 V:World} {k:Nat}
set_option linter.all false
set_option maxHeartbeats 8000000
set_option maxRecDepth 100000
section
open Go.RowKit Go.Shelf
attribute [local go_sem] AZ
theorem Vj (n lo hi:Int) (w:World):cq 81 #[ii n,ii lo,ii hi] w (.bool (decide (lo<=n/\n<=hi))):=by
 by_cases b:lo<=n
 . by_cases a:n<=hi
   . go_enter func81,ntmps81
     go_wp2
     go_ret;exact⟨VF (by simp[b,a]),rfl⟩
   go_enter func81,ntmps81
   go_wp2
   go_ret;exact⟨VF (by simp[a]),rfl⟩
 go_enter func81,ntmps81
 go_wp2
 go_ret;exact⟨VF (by simp;omega),rfl⟩
theorem VBT {w:World} {g B:Nat} (h:GeomAt w g B):cq 82 #[pq g] w (ii 11):=by
 obtain⟨a,b,c⟩:=h.cells;go_enter func82,ntmps82
 go_wp2
 go_ret;exact⟨rfl,rfl⟩
theorem QBc (now a:Nat) (d:now<=4294967295) (e:a<=4294967295) (w:World):cq 84 #[now,a] w (QAx now a:Nat):=by
 unfold QAx;by_cases h:now<=a
 . rw[AP h]
   have b:((now:Nat):Int)<=(a:Nat):=Z;go_enter func84,ntmps84
   go_wp2
   go_ret;exact⟨rfl,rfl⟩
 rw[AL h];have b:¬ ((now:Nat):Int)<=(a:Nat):=Z;have f:IntKind.i64.wrap ((now:Nat)-(a:Nat):Int)=(now:Nat)-(a:Nat):=by rw[AK];omega
 by_cases g:now-a<2147483647
 . have c:((now:Nat):Int)-(a:Nat)<2147483647:=Z
   go_enter func84,ntmps84
   go_wp2
   go_ret;exact⟨VL Z,rfl⟩
 have c:¬ ((now:Nat):Int)-(a:Nat)<2147483647:=Z;by_cases i:2147483647<((now:Nat):Int)-(a:Nat)
 . go_enter func84,ntmps84
   go_wp2
   go_ret;exact⟨VL Z,rfl⟩
 go_enter func84,ntmps84
 go_wp2
 go_ret;exact⟨VL Z,rfl⟩
theorem JBA (a b:Nat) (i:1<=a) (j:a<=11) (g:b<=2147483647) (w:World):cq 83 #[a,b,ii 22] w (Jg a b:Nat):=by
 have c:=fun W=>Vj 22 1 1000 W;have d:=fun W=>Vj (a:Nat) 0 22 W;have f:=fun W=>Vj (b:Nat) 0 2147483647 W;rw[AJ Z] at c d f;have k:(22-a)*b<=22*2147483647:=Dw Z g;have l:IntKind.i64.wrap (22-(a:Nat):Int)=((22-a:Nat):Int):=by rw[AK];omega
 have m:IntKind.i64.wrap (((22-a:Nat):Int)*(b:Nat))=(((22-a)*b:Nat):Int):=by rw[AK,<- CM];omega
 have n:IntKind.i64.wrap (22+(a:Nat):Int)=((22+a:Nat):Int):=by rw[AK];omega
 have o:¬ ((22+a:Nat):Int)=0:=Z;have h:(Jg a b:Int)=((22-a:Nat):Int)*(b:Nat) / (22+(a:Nat)):=by unfold Jg;rw[Cs,CM,BO];rfl
 go_enter func83,ntmps83
 go_wp2_with (first
  | (refine(c _).mono ?_;clear c;rintro e w' ⟨rfl,rfl⟩)
  | (refine(d _).mono ?_;clear d;rintro e w' ⟨rfl,rfl⟩)
  | (refine(f _).mono ?_;clear f;rintro e w' ⟨rfl,rfl⟩))
 go_ret;exact⟨VL h.symm,rfl⟩
theorem ZAh (a b:Nat×Nat×Nat) (w:World) :
 cr 87 #[.agg #[a.1,a.2.1,a.2.2],.agg #[b.1,b.2.1,b.2.2]] w (.bool (XAB a b)):=by
 obtain⟨d,c,f⟩:=a;obtain⟨b0,b1,h⟩:=b;have m:kz w (w.alloc (.cells #[d,c,f] 151)):=kq.alloc _;have e:kz w ((w.alloc (.cells #[d,c,f] 151)).alloc (.cells #[b0,b1,h] 151)):=m.alloc _;unfold XAB;simp only;by_cases j:d=b0
 . subst j
   rw[AL sq];by_cases g:c<b1
   . have i:((c:Nat):Int)<(b1:Nat):=Z
     go_enter func87,ntmps87
     go_wp2
     go_ret;exact⟨VF (by simp[g]),e⟩
   have i:¬ ((c:Nat):Int)<(b1:Nat):=Z;have r:decide (((c:Nat):Int)<(b1:Nat))=false:=AX i;by_cases k:c=b1
   . subst k
     by_cases l:f<h
     . have n:((f:Nat):Int)<(h:Nat):=Z
       go_enter func87,ntmps87
       go_wp2
       go_ret;exact⟨VF (by simp[l]),e⟩
     have n:¬ ((f:Nat):Int)<(h:Nat):=Z;go_enter func87,ntmps87
     go_wp2
     go_ret;exact⟨VF (by simp[l]),e⟩
   have o:¬ ((c:Nat):Int)=(b1:Nat):=Z;have s:(((c:Nat):Int) == (b1:Nat))=false:=uq o;go_enter func87,ntmps87
   go_wp2
   go_ret;exact⟨VF (by simp[g,k]),e⟩
 rw[AP j];have p:¬ ((d:Nat):Int)=(b0:Nat):=Z;have t:(((d:Nat):Int) == (b0:Nat))=false:=uq p;by_cases g:b0<d
 . have i:((b0:Nat):Int)<(d:Nat):=Z
   go_enter func87,ntmps87
   go_wp2
   go_ret;exact⟨VF (by simp[g]),e⟩
 have i:¬ ((b0:Nat):Int)<(d:Nat):=Z;go_enter func87,ntmps87
 go_wp2
 go_ret;exact⟨VF (by simp[g]),e⟩
def ZBa (k:Nat):Array Value:=#[k]
def YBY (us:List (Nat×Nat)) (pre:List Nat) (k:Nat) (_:World):Prop:=k<8/\pre=ZZ us k/\(us.getD k (0,0)).1=2
def ZBN (base t g tb:Nat) (F:List Nat) (us:List (Nat×Nat)) (lv:List Nat) (W W':World):Prop:=
 (Boxed W tb 35 (.pointer (some t))->Boxed W' tb 35 (.pointer (some t)))/\(TableAt W base t g F us lv->TableAt W' base t g F us lv)
theorem VAk {tb base t g:Nat} (n:Nat) {F:List Nat} {us:List (Nat×Nat)} {lv:List Nat} {w:World} (a:TableAt w base t g F us lv) (b:Boxed w tb 35 (.pointer (some t))) :
 XBV n prog 209 #[pq tb] ZBa (YBY us) (ZBN base t g tb F us lv) (fun xs=>xs=ZZ us 8) w:=by
 intro lb J W u a1 v y;replace a:TableAt W base t g F us lv:=a.kO u;replace b:Boxed W tb 35 (.pointer (some t)):=(u.block tb b.lt sq).trans b;have z:=b.cell;have A:=a;obtain⟨L,V,a⟩:=a;obtain⟨l,N,O,P,rfl,rfl,Q,R,S⟩:=a.forms;obtain⟨d,j,m⟩:=a.cells;clear a;refine Cx func209 rfl trivial ?_ rfl;simp only[ntmps209,PL,Nat.reduceAdd,Nat.reduceSub]
 gi_wp2
 gi_loopw [3,11] (fun _ i wr=>∃ (k:Nat) (pre:List Nat),k<=8/\i=.int .i64 (k:Nat)/\J pre wr/\Hid (pre=ZZ us k)/\TableAt wr base t g F us lv/\Boxed wr tb 35 (.pointer (some t)))
  (fun _ i _=>8-(intOf i).toNat)
 case atStart=>exact⟨0,[],AS _,rfl,y,rfl,A,b⟩
 clear A b y z d j m;obtain⟨k,pre,hk,rfl,o,c,B,b⟩:=hrel;have z:=b.cell;by_cases C:k<8
 . have a2:((k:Nat):Int)<8:=Z
   have D:=JB B;obtain⟨L,V,a⟩:=B;obtain⟨l,N,O,P,rfl,rfl,Q,R,S⟩:=a.forms;obtain⟨d,j,m⟩:=a.cells;have T:=a.ulen;have p:=(a.use k C).1;have a3:=(own_mem a.l (g:=l) (by simp[Value.ownBlock])).2;have E:=ZAU us k;rw[<- JI Z] at p;obtain⟨x,r⟩:∃ x,(us.getD k (0,0)).1=x:=⟨_,rfl⟩;rw[r] at p;have G:=JB E;have s:=JB r;clear a E r T;by_cases H:x=2
   . subst H
     obtain⟨fn,a4,a5,a6,I,K⟩:=v pre k wr o ⟨C,JA c,by rw[JA s]⟩;dsimp only[ZBa] at I
     gi_wp2
     refine⟨fun h=>by simp[Fence.wide] at h,K.mono ?_⟩;rintro e a7 ⟨rfl,U,X,M⟩;have Y:=M (JA D);clear I K d j m p M
     gi_wp2
     go_roundw;case rel=>exact⟨k+1,_,Z,by go_num,U,by show _=_;rw[JA G,JA s,AP rfl,JA c],Y,X b⟩
     case measure=>simp[intOf];omega
   have a0:¬ ((x:Nat):Int)=2:=Z;have a8:(((x:Nat):Int) == 2)=false:=uq a0;clear v
   gi_wp2
   refine⟨fun f hf=>(by cases hf),?_⟩
   gi_wp2
   go_roundw;case rel=>exact⟨k+1,pre,Z,by go_num,o,by show _=_;rw[JA G,JA s,AL H];exact JA c,JA D,b⟩
   case measure=>simp[intOf];omega
 obtain rfl:k=8:=Z
 gi_wp2
 go_end0
 exact⟨⟨_,rfl⟩,pre,JA c,o⟩
end
section
open Go.RowKit Go.Shelf
attribute [local go_sem] AZ
def c3 (x:Nat×Nat×Nat):Array Value:=#[x.1,x.2.1,x.2.2]
structure KPk (w:World) (g t base B now:Nat) (F:List Nat) (us:List (Nat×Nat)) (lv:List Nat) (tb:Nat) (pre:List Nat) (W:World):Prop where
 b3:Boxed W w.heap.size 46 (.pointer (some g))
 b4:Boxed W (w.heap.size+1) 35 (.pointer (some t))
 b5:Boxed W (w.heap.size+1+1) 3 (.int .i64 (now:Nat))
 best:Blk W (w.heap.size+1+1+1) 151 (c3 ((pre.foldl (XJ us lv now) none).getD (0,0,0)))
 has:Blk W (w.heap.size+1+1+1+1) 4 #[.bool (pre.foldl (XJ us lv now) none).isSome]
 tb:Boxed W tb 35 (.pointer (some t))
 tab:TableAt W base t g F us lv
 geo:GeomAt W g B
 keep:kz w W
section
variable {w W X Y:World} {g t base B now tb l:Nat} {F:List Nat} {us:List (Nat×Nat)} {lv:List Nat} {pre:List Nat}
theorem KPk.kept (h:KPk w g t base B now F us lv tb pre X) (a:kz X Y):KPk w g t base B now F us lv tb pre Y:=
 ⟨KA h.b3 a sq,KA h.b4 a sq,KA h.b5 a sq,h.best.kO a,h.has.kO a,KA h.tb a sq,by obtain⟨L,V,q⟩:=h.tab;exact⟨L,V,q.kO a⟩,h.geo.kO a,h.keep.tO a⟩
theorem KPk.turned {o a:Obj} (h:KPk w g t base B now F us lv tb pre W) (d:w.heap.size<=l) (b:W.heap[l]? = Option.some o) (c:o.isCells=false):KPk w g t base B now F us lv tb pre (W.putObj l a):=
 ⟨JC a h.b3 b c,JC a h.b4 b c,JC a h.b5 b c,YF a h.best b c,YF a h.has b c,JC a h.tb b c,h.tab.putObj a b c,⟨YF a h.geo.blk b c,h.geo.pos,h.geo.few⟩,h.keep.putObj d a⟩
end
theorem QBg {P X:World->Nat->Prop} {G:Prop} (f:(∀ a b,P a b->X a b)->G) (r:∀ a b,P a b->X a b):G:=f r
structure PkP (w0 V:World) (z:Nat):Prop where
 kp:kz w0 V
 b:Blk V z 151 #[zz,zz,zz]
 ge:w0.heap.size<=z
theorem PkP.keep {a:World} {z:Nat} (h:PkP w0 V z) (b:kz V a):PkP w0 a z:=⟨h.kp.tO b,h.b.kO b,h.ge⟩
theorem PkP.of (a:kz w0 V):PkP w0 (V.alloc (.cells #[zz,zz,zz] 151)) V.heap.size:=⟨a.alloc _,Blk.new V _ _,a.size⟩
def PkS (b g t:Nat) (now:Nat) (W:World):Prop:=W.cell? b=some (.pointer (some g))/\cl W ⟨b+1,0,none⟩ (pq t)/\cl W ⟨b+1+1,0,none⟩ now
theorem KPk.reads {w W X:World} {g t base B now tb:Nat} {F:List Nat} {us:List (Nat×Nat)} {lv:List Nat} {pre:List Nat} (h:KPk w g t base B now F us lv tb pre W) (a:kz W X):PkS w.heap.size g t now X:=
 ⟨(KA h.b3 a sq).cell,(KA h.b4 a sq).cell,(KA h.b5 a sq).cell⟩
theorem VAv {us:List (Nat×Nat)} {lv:List Nat} {now:Nat} {b:Option (Nat×Nat×Nat)} (h:¬ (1<=lv.getD k 0/\lv.getD k 0<=11)):XJ us lv now b k=b:=by
 unfold XJ;rw[AL h]
theorem YAr {us:List (Nat×Nat)} {lv:List Nat} {now:Nat} (h:1<=lv.getD k 0/\lv.getD k 0<=11):XJ us lv now none k=some (Jg (lv.getD k 0) (QAx now (us.getD k (0,0)).2),lv.getD k 0,k):=by
 unfold XJ;rw[AP h];rfl
theorem QAs {us:List (Nat×Nat)} {lv:List Nat} {now:Nat} {y:Nat×Nat×Nat} (h:1<=lv.getD k 0/\lv.getD k 0<=11):XJ us lv now (some y) k=if XAB (Jg (lv.getD k 0) (QAx now (us.getD k (0,0)).2),lv.getD k 0,k) y then some (Jg (lv.getD k 0) (QAx now (us.getD k (0,0)).2),lv.getD k 0,k) else some y:=by
 unfold XJ;rw[AP h];rfl
theorem XAz {w:World} {t g base B:Nat} (now:Nat) {F:List Nat} {us:List (Nat×Nat)} {lv:List Nat} (ht:TableAt w base t g F us lv) (hg:GeomAt w g B) (d0:now<=2147483647) (a3:∀ u∈us,u.2<=2147483647) (bg:∀ k,lv.getD k 0<=1000) :
 cr 16 #[pq g,pq t,now] w (.tuple #[(((Kq us lv now).getD (0,0,0)).2.2:Nat),.bool (Kq us lv now).isSome]):=by
 have bh:us.length=8:=by obtain⟨L,V,q⟩:=ht;exact q.ulen
 have bi:=ht.lt;have bj:=hg.lt;have bk:=JB bi;have cd:=JB bj;clear bi bj;refine(AR (n:=3)).1 ?_;refine callsIn_of_wp_marks func16 rfl trivial ?_ rfl;simp only[ntmps16,PL,Nat.reduceAdd,Nat.reduceSub];have bl:=fun W=>KBH (3-1) (.pointer (some t)) W rfl;have ce:=JB bh;have cf:=JB a3;have cg:=JB bg;clear bh a3 bg;gi_wp2_with (refine⟨trivial,?_⟩;refine(bl _).mono ?_;clear bl;rintro e w' ⟨rfl,rfl⟩);obtain⟨w1,a8⟩:=ex (w.alloc (.cells #[pq g] 46));obtain⟨w2,a9⟩:=ex (w1.alloc (.cells #[pq t] 35));obtain⟨w3,aa⟩:=ex (w2.alloc (.cells #[now] 3));obtain⟨w4,ab⟩:=ex (w3.alloc (.cells #[zz,zz,zz] 151));obtain⟨w5,ac⟩:=ex (w4.alloc (.cells #[.bool false] 4));obtain⟨w6,ad⟩:=ex (w5.alloc (.cells #[pq t] 35));rw[<- a8,<- a9,<- aa,<- ab,<- ac,<- ad];have s1:w1.heap.size=w.heap.size+1:=by rw[a8,AN]
 have s2:w2.heap.size=w.heap.size+1+1:=by rw[a9,AN,s1]
 have s3:w3.heap.size=w.heap.size+1+1+1:=by rw[aa,AN,s2]
 have s4:w4.heap.size=w.heap.size+1+1+1+1:=by rw[ab,AN,s3]
 have s5:w5.heap.size=w.heap.size+1+1+1+1+1:=by rw[ac,AN,s4]
 have k1:kz w w1:=by rw[a8];exact kq.alloc _
 have k2:kz w1 w2:=by rw[a9];exact kq.alloc _
 have k3:kz w2 w3:=by rw[aa];exact kq.alloc _
 have k4:kz w3 w4:=by rw[ab];exact kq.alloc _
 have k5:kz w4 w5:=by rw[ac];exact kq.alloc _
 have k6:kz w5 w6:=by rw[ad];exact kq.alloc _
 have b2:=(k5.tO k6);have b3:=k4.tO b2;have b4:=k3.tO b3;have b6:=k2.tO b4;have an:=k1.tO b6;obtain⟨tb,ae⟩:=ex (w.heap.size+1+1+1+1+1)
 have h0:KPk w g t base B now F us lv tb [] w6:=
  ⟨KA (by rw[a8];exact Boxed.new w _ _) b6 sq,KA (by rw[a9,<- s1];exact Boxed.new w1 _ _) b4 sq,KA (by rw[aa,<- s2];exact Boxed.new w2 _ _) b3 sq,by
    have:=(Blk.new w3 151 #[zz,zz,zz]).kO (w':=w6) (by rw[<- ab];exact b2);rw[s3] at this;exact this,by
    have:=(Blk.new w4 4 #[.bool false]).kO (w':=w6) (by rw[<- ac];exact k6);rw[s4] at this;exact this,by rw[ae,<- s5,ad];exact Boxed.new w5 _ _,by obtain⟨L,V,q⟩:=ht;exact⟨L,V,q.kO an⟩,hg.kO an,an⟩
 rw[<- ae];have bm:XBV 2 prog 209 #[pq tb] (fun k=>#[(k:Nat)]) (YBY us) (ZBN base t g tb F us lv) (fun xs=>xs=ZZ us 8) w6:=VAk 2 h0.tab h0.tb;have d1:w.heap.size+1+1+1+1+1+1<=w6.heap.size:=by rw[ad,AN,s5];omega
 have ch:=JB ae;clear a8 a9 aa ab ac ad s1 s2 s3 s4 s5 k1 k2 k3 k4 k5 k6 b2 b3 b4 b6 an ht hg ae
 refine Jb (n:=3) (gf:=209) (lb:=#[pq tb]) 10 (fun k=>.int .i64 (k:Nat)) rfl (enters_of func209 (by kernel_rfl) rfl)
  bm
  (fun A B C h k=>⟨fun j=>k.1 (h.1 j),fun j=>k.2 (h.2 j)⟩)
  (fun W l o ao hl af N=>⟨fun j=>JC ao j af N,fun j=>j.putObj ao af N⟩)
  (KPk w g t base B now F us lv tb) (fun s A B h hk=>h.kept hk) (fun s W l o ao h hl af N=>h.turned Z af N)
  (fun pre x W l o ao h hl af N=>h) h0 ?assign ?body ?done
 case assign=>
  rintro l x W K a;simp only[PU,A6] at a
  gi_wp2
  exact a
 case body=>
  rintro lb pre k W c ⟨hk,ci,cj⟩;simp only[PU,A6];have ag:=AR (n:=0).2 (KBN c.tab k hk);have ap:=AR (n:=0).2 (VBT c.geo);obtain⟨l,hl⟩:=ex (lv.getD k 0);have d2:l<=1000:=by rw[hl];exact JA cg k
  rw[<- hl] at ag;have a6:=AR (n:=0).2 (Vj (l:Nat) 1 11 W);have e3:=c.b3.cell;have e4:=c.b4.cell;have bn:(pre++[k]).foldl (XJ us lv now) none=XJ us lv now (pre.foldl (XJ us lv now) none) k:=by rw[List.foldl_append];rfl
  have ar:=JB hl;have b7:=JB bn;clear hl bn cj ci;by_cases a7:1<=l/\l<=11
  . rw[AJ Z] at a6
    gi_wp2_with (first
     | (refine⟨trivial,?_⟩;refine ag.mono ?_;clear ag;rintro e w' ⟨rfl,rfl⟩)
     | (refine⟨trivial,?_⟩;refine ap.mono ?_;clear ap;rintro e w' ⟨rfl,rfl⟩)
     | (refine⟨trivial,?_⟩;refine a6.mono ?_;clear a6;rintro e w' ⟨rfl,rfl⟩))
    have r:kz W W.drew:=(Keep.refl [] W).drew;obtain⟨st,a3⟩:=ex ((us.getD k (0,0)).2)
    have d3:st<=2147483647:=by
     rw[a3,JI (by rw[JA ce];exact hk)];exact JA cf _ (AQ _)
    have au:=fun V (Q:kz W V)=>XBC (w:=V) (base:=base) (t:=t) (g:=g) (F:=F) (us:=us) (lv:=lv) (by obtain⟨L,U,q⟩:=c.tab;exact⟨L,U,q.kO Q⟩) k hk;rw[<- a3] at au;have ah:=fun V=>QBc now st Z Z V;obtain⟨b8,av⟩:=ex (QAx now st);have bp:b8<=2147483647:=by rw[av];exact KBJ _ _
    rw[<- av] at ah;have a4:=fun V=>JBA l b8 a7.1 a7.2 bp V;obtain⟨m,aw⟩:=ex (Jg l b8);have d4:m<=2147483647:=by rw[aw];exact XAd _ _ a7.1 bp
    rw[<- aw] at a4;have ai:=fun V (Q:kz W V)=>ConfigG_is V g B (c.geo.kO Q);have f:=fun V (Q:kz W V)=>c.reads Q;have ck:=fun(cm cn co:Value) V=>QE (P:=prog) underlying28 2 rfl isAgg3 #[cm,cn,co] rfl V;have bq:=JB a3;have br:=JB av;have bs:=JB aw;clear a3 av aw e3 e4;refine ZJ (S:=(PkS w.heap.size g t now)) 15 (.held 0 (.held 1 (.held 2 (.held 3 (.held 6 (.held 11 (.held 12 (.two 4 (.two 5 (.two 7 (.held 8 (.held 9 (.two 10 (.held 13 (.loud 14 .nil)) 14 (.loud 10 (.held 13 .nil))))) 14 (.loud 7 (.held 8 (.held 9 (.loud 10 (.held 13 .nil)))))) 14 (.loud 5 (.loud 7 (.held 8 (.held 9 (.loud 10 (.held 13 .nil))))))) 14 (.loud 4 (.loud 5 (.loud 7 (.held 8 (.held 9 (.loud 10 (.held 13 .nil))))))))))))))) (f _ r) ?_;simp only[RT.pick,PJ];iterate 7 (refine wpR_held ?_ rq ?_ ?_;rotate_left;(focus(rintro W ⟨v,D,E⟩;go_simp;try with_reducible rfl));simp only[Act.put,PU])
    generalize W.drew=X0 at *;refine @QBg (PkP W) ?XA _ (fun aj=>?_) ?_;rotate_left
    -- ROADS
    refine wpR_two ?_ ?_
    . refine wpR_loud rq fun K a=>?_
      go_wp2_with (refine(au _ r).mono ?_;rintro e w' ⟨rfl,rfl⟩);refine a _ _ (f _ r) ?_
      try simp only[Act.put,PU]
      refine wpR_two ?_ ?_
      . refine wpR_loud rq fun K a=>?_
        go_wp2_with (refine(ah _).mono ?_;rintro e w' ⟨rfl,rfl⟩);refine a _ _ (f _ r) ?_
        try simp only[Act.put,PU]
        refine wpR_two ?_ ?_
        . refine wpR_loud rq fun K a=>?_
          go_wp2_with (refine(ai _ r).mono ?_;rintro e ax ⟨rfl,cp⟩);have ay:=r.tO cp;refine a _ _ (f _ ay) ?_
          try simp only[Act.put,PU]
          iterate 1 (refine wpR_held ?_ rq ?_ ?_;rotate_left;(focus(rintro W ⟨v,D,E⟩;go_simp;try with_reducible rfl));simp only[Act.put,PU])
          iterate 1 (refine wpR_held ?_ rq ?_ ?_;rotate_left;(focus(rintro W ⟨v,D,E⟩;go_simp;try with_reducible rfl));simp only[Act.put,PU])
          refine wpR_two ?_ ?_
          . refine wpR_loud rq fun K a=>?_
            go_wp2_with (refine(a4 _).mono ?_;rintro e w' ⟨rfl,rfl⟩);refine a _ _ (f _ ay) ?_
            try simp only[Act.put,PU]
            iterate 1 (refine wpR_held ?_ rq ?_ ?_;rotate_left;(focus(rintro W ⟨v,D,E⟩;go_simp;try with_reducible rfl));simp only[Act.put,PU])
            refine wpR_loud rq fun K a=>?_;go_wp2_with fail;have d:=PkP.of ay
            revert d
            generalize (ax.alloc (.cells #[zz,zz,zz] 151))=Y2;generalize ax.heap.size=z2;intro d;refine a _ _ (f _ d.kp) ?_
            try simp only[Act.put,PU]
            refine wpR_nil ?_;exact aj _ _ d
          refine wpR_loud rq fun K a=>?_;go_wp2_with fail;have d:=PkP.of ay
          revert d
          generalize (ax.alloc (.cells #[zz,zz,zz] 151))=Y2;generalize ax.heap.size=z2;intro d;refine a _ _ (f _ d.kp) ?_
          try simp only[Act.put,PU]
          refine wpR_loud rq fun K a=>?_;go_wp2_with (refine(a4 _).mono ?_;rintro e w' ⟨rfl,rfl⟩);refine a _ _ (f _ d.kp) ?_
          try simp only[Act.put,PU]
          iterate 1 (refine wpR_held ?_ rq ?_ ?_;rotate_left;(focus(rintro W ⟨v,D,E⟩;go_simp;try with_reducible rfl));simp only[Act.put,PU])
          refine wpR_nil ?_;exact aj _ _ d
        refine wpR_loud rq fun K a=>?_;go_wp2_with fail;have i:=PkP.of r
        revert i
        generalize (X0.alloc (.cells #[zz,zz,zz] 151))=Y1;generalize X0.heap.size=z1;intro i;refine a _ _ (f _ i.kp) ?_
        try simp only[Act.put,PU]
        refine wpR_loud rq fun K a=>?_;go_wp2_with (refine(ai _ i.kp).mono ?_;rintro e bt ⟨rfl,ak⟩);have d:=i.keep ak;refine a _ _ (f _ d.kp) ?_
        try simp only[Act.put,PU]
        iterate 1 (refine wpR_held ?_ rq ?_ ?_;rotate_left;(focus(rintro W ⟨v,D,E⟩;go_simp;try with_reducible rfl));simp only[Act.put,PU])
        iterate 1 (refine wpR_held ?_ rq ?_ ?_;rotate_left;(focus(rintro W ⟨v,D,E⟩;go_simp;try with_reducible rfl));simp only[Act.put,PU])
        refine wpR_loud rq fun K a=>?_;go_wp2_with (refine(a4 _).mono ?_;rintro e w' ⟨rfl,rfl⟩);refine a _ _ (f _ d.kp) ?_
        try simp only[Act.put,PU]
        iterate 1 (refine wpR_held ?_ rq ?_ ?_;rotate_left;(focus(rintro W ⟨v,D,E⟩;go_simp;try with_reducible rfl));simp only[Act.put,PU])
        refine wpR_nil ?_;exact aj _ _ d
      refine wpR_loud rq fun K a=>?_;go_wp2_with fail;have i:=PkP.of r
      revert i
      generalize (X0.alloc (.cells #[zz,zz,zz] 151))=Y1;generalize X0.heap.size=z1;intro i;refine a _ _ (f _ i.kp) ?_
      try simp only[Act.put,PU]
      refine wpR_loud rq fun K a=>?_;go_wp2_with (refine(ah _).mono ?_;rintro e w' ⟨rfl,rfl⟩);refine a _ _ (f _ i.kp) ?_
      try simp only[Act.put,PU]
      refine wpR_loud rq fun K a=>?_;go_wp2_with (refine(ai _ i.kp).mono ?_;rintro e bt ⟨rfl,ak⟩);have d:=i.keep ak;refine a _ _ (f _ d.kp) ?_
      try simp only[Act.put,PU]
      iterate 1 (refine wpR_held ?_ rq ?_ ?_;rotate_left;(focus(rintro W ⟨v,D,E⟩;go_simp;try with_reducible rfl));simp only[Act.put,PU])
      iterate 1 (refine wpR_held ?_ rq ?_ ?_;rotate_left;(focus(rintro W ⟨v,D,E⟩;go_simp;try with_reducible rfl));simp only[Act.put,PU])
      refine wpR_loud rq fun K a=>?_;go_wp2_with (refine(a4 _).mono ?_;rintro e w' ⟨rfl,rfl⟩);refine a _ _ (f _ d.kp) ?_
      try simp only[Act.put,PU]
      iterate 1 (refine wpR_held ?_ rq ?_ ?_;rotate_left;(focus(rintro W ⟨v,D,E⟩;go_simp;try with_reducible rfl));simp only[Act.put,PU])
      refine wpR_nil ?_;exact aj _ _ d
    . refine wpR_loud rq fun K a=>?_
      go_wp2_with fail;have i:=PkP.of r
      revert i
      generalize (X0.alloc (.cells #[zz,zz,zz] 151))=Y1;generalize X0.heap.size=z1;intro i;refine a _ _ (f _ i.kp) ?_
      try simp only[Act.put,PU]
      refine wpR_loud rq fun K a=>?_;go_wp2_with (refine(au _ i.kp).mono ?_;rintro e w' ⟨rfl,rfl⟩);refine a _ _ (f _ i.kp) ?_
      try simp only[Act.put,PU]
      refine wpR_loud rq fun K a=>?_;go_wp2_with (refine(ah _).mono ?_;rintro e w' ⟨rfl,rfl⟩);refine a _ _ (f _ i.kp) ?_
      try simp only[Act.put,PU]
      refine wpR_loud rq fun K a=>?_;go_wp2_with (refine(ai _ i.kp).mono ?_;rintro e bt ⟨rfl,ak⟩);have d:=i.keep ak;refine a _ _ (f _ d.kp) ?_
      try simp only[Act.put,PU]
      iterate 1 (refine wpR_held ?_ rq ?_ ?_;rotate_left;(focus(rintro W ⟨v,D,E⟩;go_simp;try with_reducible rfl));simp only[Act.put,PU])
      iterate 1 (refine wpR_held ?_ rq ?_ ?_;rotate_left;(focus(rintro W ⟨v,D,E⟩;go_simp;try with_reducible rfl));simp only[Act.put,PU])
      refine wpR_loud rq fun K a=>?_;go_wp2_with (refine(a4 _).mono ?_;rintro e w' ⟨rfl,rfl⟩);refine a _ _ (f _ d.kp) ?_
      try simp only[Act.put,PU]
      iterate 1 (refine wpR_held ?_ rq ?_ ?_;rotate_left;(focus(rintro W ⟨v,D,E⟩;go_simp;try with_reducible rfl));simp only[Act.put,PU])
      refine wpR_nil ?_;exact aj _ _ d
    -- END
    rintro V z ⟨Q,G,d5⟩;have bu:=c.kept Q;have d6:=c.has.lt;have q0:cl V (aq z 0) zz:=uq (G.cell 0);have q1:cl V (aq z 1) zz:=uq (G.cell 1);have q2:cl V (aq z 2) zz:=uq (G.cell 2);have f0:=G.frozen 0;have f1:=G.frozen 1;have f2:=G.frozen 2;have cq:=G.lt;clear au ah a4 ai f ck;have n3:z≠w.heap.size+1+1+1:=Z;have n4:z≠w.heap.size+1+1+1+1:=Z;have d7:w.heap.size+1+1+1≠z:=fun e=>n3 e.symm;have d8:w.heap.size+1+1+1+1≠z:=fun e=>n4 e.symm;have h4:cl V ⟨w.heap.size+1+1+1+1,0,none⟩ (.bool (pre.foldl (XJ us lv now) none).isSome):=uq (bu.has.cell 0);go_wp2_with fail;have al:=((G.set 0 (.int .i64 (m:Nat))).set 1 (.int .i64 (l:Nat))).set 2 (.int .i64 (k:Nat));simp only[PU] at al
    have bv:Keep [z] V (((V.setCell (aq z 0) (.int .i64 (m:Nat))).setCell (aq z 1) (.int .i64 (l:Nat))).setCell (aq z 2) (.int .i64 (k:Nat))):=
     (((Keep.refl [z] V).sc z 0).sc z 1).sc z 2
    have b9:kz W (((V.setCell (aq z 0) (.int .i64 (m:Nat))).setCell (aq z 1) (.int .i64 (l:Nat))).setCell (aq z 2) (.int .i64 (k:Nat))):=Q.trans bv iq;have H:=c.kept b9;clear h4 q0 q1 q2 f0 f1 f2 bu G bv Q cq;generalize ((V.setCell (aq z 0) (.int .i64 (m:Nat))).setCell (aq z 1) (.int .i64 (l:Nat))).setCell (aq z 2) (.int .i64 (k:Nat))=V3 at *;have q0:cl V3 (aq z 0) (m:Nat):=uq (al.cell 0);have q1:cl V3 (aq z 1) (l:Nat):=uq (al.cell 1);have q2:cl V3 (aq z 2) (k:Nat):=uq (al.cell 2);have bw:1<=lv.getD k 0/\lv.getD k 0<=11:=by rw[<- JA ar];exact a7
    obtain⟨bo,a0⟩:=ex (pre.foldl (XJ us lv now) none);have I:=H.best;have O:=H.has;rw[<- a0] at I O;have ba:=JA b7;rw[<- a0] at ba;have hx:(m,l,k)=(Jg (lv.getD k 0) (QAx now (us.getD k (0,0)).2),lv.getD k 0,k):=by rw[JA bs,JA br,JA bq,JA ar]
    have bx:=JB hx;have bz:=JB bw;have c2:=JB ba;have bb:=JB a0;have c4:Hid (KPk w g t base B now F us lv tb pre V3):=H;clear hx bw ba a0 H ar bs br bq b7 a7
    have c5:∀ (R:World) (y:Nat×Nat×Nat),XJ us lv now bo k=Option.some y->Keep [w.heap.size+1+1+1,w.heap.size+1+1+1+1] V3 R->Blk R (w.heap.size+1+1+1) 151 (c3 y)->Blk R (w.heap.size+1+1+1+1) 4 #[.bool true] ->
     KeepsFrom w6.heap.size W R/\ZBN base t g tb F us lv W R/\KPk w g t base B now F us lv tb (pre++[k]) R:=by
     intro R y T a1 a5 cs;have H:KPk w g t base B now F us lv tb pre V3:=JA c4;have bc:∀ q,q<w.heap.size->q∉[w.heap.size+1+1+1,w.heap.size+1+1+1+1]:=fun q hq hm=>by simp at hm;omega
     have ae:=JA ch;have hs:(pre++[k]).foldl (XJ us lv now) none=Option.some y:=by rw[JA c2];exact T
     have bd:Keep [w.heap.size+1+1+1,w.heap.size+1+1+1+1] W R:=b9.zero.trans a1 (fun y T=>.inl T);have ct:TableAt R base t g F us lv:=by obtain⟨L,U,q⟩:=H.tab;exact⟨L,U,q.keep a1 (fun x hx=>bc x (JA bk x hx))⟩
     refine⟨bd.fromCells (fun b j o N=>?_) _,⟨fun j=>KA j bd (by simp;omega),fun j=>by obtain⟨L,U,q⟩:=j;exact⟨L,U,q.keep bd (fun x hx=>bc x (JA bk x hx))⟩⟩,⟨KA H.b3 a1 (by rw[AM,Ak];omega),KA H.b4 a1 (by rw[AM,Ak];omega),KA H.b5 a1 (by rw[AM,Ak];omega),by rw[hs];exact a5,by rw[hs];exact cs,KA H.tb a1 (by simp;omega),ct,H.geo.keep a1 (bc g (JA cd)),H.keep.trans a1 iq⟩⟩;simp at j;rcases j with rfl | rfl
     . rw[c.best] at N;cases N;rfl
     rw[c.has] at N;cases N;rfl
    have c6:=JB c5;clear c5;have b0:=I.cell 0;have b1:=I.cell 1;have c7:=I.cell 2;have g0:=I.frozen 0;have g1:=I.frozen 1;have g2:=I.frozen 2;have g3:=O.frozen 0;have d9:=I.lt;have hl:=O.lt;rcases bo with _ | ⟨y0,y1,y2⟩
    . have h4:cl V3 ⟨w.heap.size+1+1+1+1,0,none⟩ (.bool false):=uq (O.cell 0)
      simp[c3] at b0 b1 c7;have a2:=YAr (us:=us) (now:=now) (JA bz);rw[<- JA bx] at a2;have az:=JB a2;clear a2;gi_wp2_with (refine⟨trivial,?_⟩);have a5:=((I.set 0 (.int .i64 (m:Nat))).set 1 (.int .i64 (l:Nat))).set 2 (.int .i64 (k:Nat));simp only[c3,AF,AT,AU] at a5;refine(JA c6) _ (m,l,k) (JA az) ?_ ?_ ?_
      . exact((((Keep.refl _ V3).sc (w.heap.size+1+1+1) 0).sc (w.heap.size+1+1+1) 1).sc (w.heap.size+1+1+1) 2).sc (w.heap.size+1+1+1+1) 0
      . exact a5.keep ((Keep.refl [w.heap.size+1+1+1+1] _).sc (w.heap.size+1+1+1+1) 0) sq
      have hh:=(O.keep ((((Keep.refl [w.heap.size+1+1+1] V3).setCell (p:=⟨w.heap.size+1+1+1,0,none⟩) (.inl sq) (.int .i64 (m:Nat))).setCell (p:=⟨w.heap.size+1+1+1,1,none⟩) (.inl sq) (.int .i64 (l:Nat))).setCell (p:=⟨w.heap.size+1+1+1,2,none⟩) (.inl sq) (.int .i64 (k:Nat))) sq).set 0 (.bool true);simpa using hh
    have h4:cl V3 ⟨w.heap.size+1+1+1+1,0,none⟩ (.bool true):=uq (O.cell 0);simp[c3] at b0 b1 c7;have am:=fun V=>AR (n:=0).2 (ZAh (m,l,k) (y0,y1,y2) V);have a2:=QAs (us:=us) (now:=now) (y:=(y0,y1,y2)) (JA bz);rw[<- JA bx] at a2;obtain⟨cu,c8⟩:=ex (XAB (m,l,k) (y0,y1,y2));rw[<- c8] at am a2;have az:=JB a2;clear c8 a2;cases cu
    . gi_wp2_with (refine⟨trivial,?_⟩;refine(am _).mono ?_;clear am;rintro e J ⟨rfl,M⟩)
      have bf:=b9.tO M;have Y:KPk w g t base B now F us lv tb pre J:=(show KPk w g t base B now F us lv tb pre V3 from JA c4).kept M
      have hs:(pre++[k]).foldl (XJ us lv now) none=pre.foldl (XJ us lv now) none:=by
       rw[JA c2,<- JA bb];have:=JA az
       rwa [AL sq] at this
      exact⟨bf.fromCells sq _,⟨fun j=>KA j bf sq,fun j=>by obtain⟨L,U,q⟩:=j;exact⟨L,U,q.kO bf⟩⟩,⟨Y.b3,Y.b4,Y.b5,by rw[hs];exact Y.best,by rw[hs];exact Y.has,Y.tb,Y.tab,Y.geo,Y.keep⟩⟩
    gi_wp2_with (
     refine⟨trivial,?_⟩;refine(am _).mono ?_;clear am;rintro e J ⟨rfl,M⟩;have z5:=al.kO M;have u0:cl J (aq z 0) (m:Nat):=uq (z5.cell 0);have u1:cl J (aq z 1) (l:Nat):=uq (z5.cell 1);have u2:cl J (aq z 2) (k:Nat):=uq (z5.cell 2);have b5:=I.kO M;have r0:cl J ⟨w.heap.size+1+1+1,0,none⟩ y0:=by simpa [c3] using b5.cell 0
     have r1:cl J ⟨w.heap.size+1+1+1,1,none⟩ y1:=by simpa [c3] using b5.cell 1
     have r2:cl J ⟨w.heap.size+1+1+1,2,none⟩ y2:=by simpa [c3] using b5.cell 2
     have r3:cl J ⟨w.heap.size+1+1+1+1,0,none⟩ (.bool true):=uq ((O.kO M).cell 0);have v0:=b5.frozen 0;have v1:=b5.frozen 1;have v2:=b5.frozen 2;have v3:=(O.kO M).frozen 0;have da:=b5.lt;have db:=(O.kO M).lt;have dc:=z5.lt)
    have a5:=(((I.kO M).set 0 (.int .i64 (m:Nat))).set 1 (.int .i64 (l:Nat))).set 2 (.int .i64 (k:Nat));simp only[c3,AF,AT,AU] at a5;have hp:=JA az;simp only[B8] at hp;refine(JA c6) _ (m,l,k) hp ?_ ?_ ?_
    . exact M.zero.trans (((((Keep.refl _ J).sc (w.heap.size+1+1+1) 0).sc (w.heap.size+1+1+1) 1).sc (w.heap.size+1+1+1) 2).sc (w.heap.size+1+1+1+1) 0) (fun y T=>.inl T)
    . exact a5.keep ((Keep.refl [w.heap.size+1+1+1+1] _).sc (w.heap.size+1+1+1+1) 0) sq
    have hh:=((O.kO M).keep ((((Keep.refl [w.heap.size+1+1+1] J).setCell (p:=⟨w.heap.size+1+1+1,0,none⟩) (.inl sq) (.int .i64 (m:Nat))).setCell (p:=⟨w.heap.size+1+1+1,1,none⟩) (.inl sq) (.int .i64 (l:Nat))).setCell (p:=⟨w.heap.size+1+1+1,2,none⟩) (.inl sq) (.int .i64 (k:Nat))) sq).set 0 (.bool true);simpa using hh
  rw[AX Z] at a6
  gi_wp2_with (first
   | (refine⟨trivial,?_⟩;refine ag.mono ?_;clear ag;rintro e w' ⟨rfl,rfl⟩)
   | (refine⟨trivial,?_⟩;refine ap.mono ?_;clear ap;rintro e w' ⟨rfl,rfl⟩)
   | (refine⟨trivial,?_⟩;refine a6.mono ?_;clear a6;rintro e w' ⟨rfl,rfl⟩))
  have hs:(pre++[k]).foldl (XJ us lv now) none=pre.foldl (XJ us lv now) none:=by rw[JA b7];exact VAv (by rw[<- JA ar];exact a7)
  exact⟨(Keep.refl [] W).fromCells sq _,⟨id,id⟩,⟨c.b3,c.b4,c.b5,by rw[hs];exact c.best,by rw[hs];exact c.has,c.tb,c.tab,c.geo,c.keep⟩⟩
 case done=>
  intro D' xs W dd c9 c ca;have cb:xs.foldl (XJ us lv now) none=Kq us lv now:=by rw[show xs=ZZ us 8 from c9];rfl
  obtain⟨bo,a0⟩:=ex (Kq us lv now);have u3:=c.best;have u4:=c.has;rw[cb,<- a0] at u3 u4;have cc:=c.keep;have cv:bo.getD (0,0,0)=bo.getD (0,0,0):=rfl;obtain⟨y,T⟩:=ex (bo.getD (0,0,0));obtain⟨z,G⟩:=ex bo.isSome;rw[<- T] at u3;rw[<- G] at u4;have bb:=JB a0;have cw:=JB T;have cx:=JB G;have de:w.heap.size<=D':=Z;clear bm c c9 cb a0 cv T G h0
  gi_wp2
  refine KJ (Br.2 ?_);have r:kz W W.drew:=(Keep.refl [] W).drew;refine ZT (fun X=>cl X ⟨w.heap.size+1+1+1,2,none⟩ (.int .i64 (y.2.2:Nat))/\cl X ⟨w.heap.size+1+1+1+1,0,none⟩ (.bool z)) 4 [[0,1,2,3]] ⟨by simpa [c3] using(u3.kO r).cell 2,uq ((u4.kO r).cell 0)⟩ ?_;simp only[PI];iterate 4 refine wG ?_
  refine KB ?_;have cy:=r.heap_same ca;have cz:=cc.tO r;clear u3 u4 ca cc r;generalize W.drew=X at *;go_wp2_with fail
  gi_wp2
  refine⟨sq,.inl ⟨_,_,rfl,run_takeDeferred cy,?_⟩⟩;refine⟨.tuple #[.int .i64 (y.2.2:Nat),.bool z],?_,by rw[JA cx,JA cw,JA bb],cz.putObj Z _⟩;simp[results,results16,go_sem]