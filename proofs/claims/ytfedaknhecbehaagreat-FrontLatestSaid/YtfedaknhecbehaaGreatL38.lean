/- Lemmas of the proof, with their conditions. -/
import Derived.Test.YtfedaknhecbehaaGreatL37
import Derived.Test.YtfedaknhecbehaaGreatL31
namespace Go.Proofs.YtfedaknhecbehaaGreat
open Tryz Go.RowKit Go.Shelf
variable {w:World} {base d g B n x b b' t:Nat} {F:List Nat} {p:Nat×List UInt8} {D:PDisk}
set_option linter.all false
set_option maxHeartbeats 8000000
set_option maxRecDepth 50000
structure PPart where
 a:Nat
 v:Value
 bs:List UInt8
def ptc (q:PPart):List Value:=[.int .i64 q.a,q.v]
theorem VAI (q:PPart):(ptc q).length=2:=rfl
theorem XBH (n k:Nat) (a:k<n):seg 64 (List.replicate (n*64) (0:UInt8)) k=List.replicate 64 0:=by
 unfold seg;rw[CZ,Cu]
 congr 1
 have:(k+1)*64<=n*64:=A3 _ a;omega
theorem VBM (n:Nat) (hn:2<=n) (h:DiskAt w base d F (PDisk.new n)) :
 Calls prog 283 #[pq d] w fun e w'=>∃ a b f g,e=.returned (.tuple #[.agg #[.slice a 64 b,.slice f 64 g],zz]) /\
  w'.ownsRow w.heap.size 5 1 (.slice a 64 b) 64 (bys zeros64)/\w'.ownsRow w.heap.size 5 1 (.slice f 64 g) 64 (bys zeros64)/\kz w w':=by
 have M:=fun(k:Nat) (N:k<2) W (V:kz w W)=>Zf W base d F (PDisk.new n) (h.kO V) rfl k (by show k<n;omega) (by show (List.replicate n false)[k]? = _;rw[Ay,AP Z]);have O:∀ k,k<2->seg 64 (PDisk.new n).now k=zeros64:=fun k N=>XBH n k Z;go_enter func283,ntmps283;go_wp2_with fail;have P:=Blk.new w 334 #[zn,zn];have G:kz w (w.alloc (.cells #[zn,zn] 334)):=kq.alloc _;generalize w.alloc (.cells #[zn,zn] 334)=wA at *;go_loopw [3,4,5] (fun _ _ i wr=>∃ (k:Nat) (s r:Value),k<=2/\i=.int .i64 (k:Nat)/\Blk wr w.heap.size 334 #[s,r]/\(0<k->∃ A c,s=.slice A 64 c/\wr.ownsRow w.heap.size 5 1 s 64 (bys zeros64))/\(1<k->∃ A c,r=.slice A 64 c/\wr.ownsRow w.heap.size 5 1 r 64 (bys zeros64))/\kz w wr) (fun _ _ i _=>2-(intOf i).toNat)
 case atStart=>exact⟨0,_,_,Z,rfl,P,Z,Z,G⟩
 clear P G;obtain⟨k,s,r,N,rfl,m,I,Q,t⟩:=hrel;have J:cl wr w.heap.size s:=uq (m.cell 0);have K:cl wr (aq w.heap.size 1) r:=uq (m.cell 1)
 have C:∀ {q:Value} {n:Nat} {ys:List Value} {W:World},Blk W w.heap.size 334 #[s,r]->W.ownsRow w.heap.size 5 1 q n ys->∀ x,q.ownBlock=some x->x∉[w.heap.size]:=fun X Y x hx R=>by
  simp at R;subst R;exact own_blk_ne Y X (by decide) hx
 by_cases G:k=0
 . subst G
   have y:=M 0 Z wr t;rw[O 0 Z] at y
   go_wp2_with (
    (refine y.mono ?_)
    clear y J K;rintro e z ⟨u,rfl,D,B⟩;obtain⟨o,p,rfl,_⟩:=ZB D;have j:=m.kO B;have J:cl z w.heap.size s:=uq (j.cell 0);have f0:=j.frozen 0)
   have L:=j.set 0 (.slice o 64 p);have l:Keep [w.heap.size] z (z.setCell w.heap.size (.slice o 64 p)):=kq.sc w.heap.size 0;have E:=ZC D t.size;go_roundw;case rel=>exact⟨1,.slice o 64 p,r,Z,rfl,uq L,fun _=>⟨o,p,rfl,XB E l (C j E)⟩,Z,(t.tO B).trans l iq⟩
   case measure=>simp[intOf]
 by_cases a0:k=1
 . subst a0
   obtain⟨a,b,rfl,H⟩:=I Z;have y:=M 1 Z wr t;rw[O 1 Z] at y
   go_wp2_with (
    (refine y.mono ?_)
    clear y J K;rintro e z ⟨u,rfl,D,B⟩;obtain⟨o,p,rfl,_⟩:=ZB D;have j:=m.kO B;have K:cl z (aq w.heap.size 1) r:=uq (j.cell 1);have f1:=j.frozen 1)
   have L:=j.set 1 (.slice o 64 p);have l:Keep [w.heap.size] z (z.setCell (aq w.heap.size 1) (.slice o 64 p)):=kq.sc w.heap.size 1;have E:=ZC D t.size;have S:=QB H B;go_roundw;case rel=>exact⟨2,.slice a 64 b,.slice o 64 p,Z,rfl,uq L,fun _=>⟨a,b,rfl,XB S l (C j S)⟩,fun _=>⟨o,p,rfl,XB E l (C j E)⟩,(t.tO B).trans l iq⟩
   case measure=>simp[intOf]
 obtain rfl:k=2:=Z;obtain⟨a,b,rfl,H⟩:=I Z;obtain⟨f,g,rfl,T⟩:=Q Z;have f0:=m.frozen 0;have f1:=m.frozen 1;clear I Q;go_wp2_with fail;have U:=(m.set 0 (.slice a 64 b)).set 1 (.slice f 64 g);have g0:((wr.setCell w.heap.size (.slice a 64 b)).setCell (aq w.heap.size 1) (.slice f 64 g)).cell? w.heap.size=some (.slice a 64 b):=uq (U.cell 0);have g1:((wr.setCell w.heap.size (.slice a 64 b)).setCell (aq w.heap.size 1) (.slice f 64 g)).cell? (aq w.heap.size 1)=some (.slice f 64 g):=uq (U.cell 1);have l:Keep [w.heap.size] wr ((wr.setCell w.heap.size (.slice a 64 b)).setCell (aq w.heap.size 1) (.slice f 64 g)):=((Keep.refl [w.heap.size] wr).sc w.heap.size 0).sc w.heap.size 1;refine Af (v:=.tuple #[.agg #[.slice a 64 b,.slice f 64 g],zz]) (by simp[results,results283,go_sem,g0,g1]) rfl ⟨a,b,f,g,rfl,XB H l (C m H),XB T l (C m T),t.trans l iq⟩
theorem ZBR (j:GeomAt w g B) (f:Nat) :
 Calls prog 181 #[pq g,f] w fun e w'=>∃ n o E F,e=.returned (.agg ((⟨1,1,1,0,0,0,⟨0,0,1,0,f⟩⟩:PReg).cs (.slice n (pgs B) o) (.slice n (pgs B) o) (.slice (some (aq E 0)) 8 F)).toArray) /\
  w'.ownsRow w.heap.size 3 1 (.slice n (pgs B) o) (pgs B) (YL (List.replicate (pgs B) 0))/\w'.ownsRow w.heap.size 166 2 (.slice (some (aq E 0)) 8 F) 8 (((1,0) :: List.replicate 7 (0,0)).flatMap Kk)/\kz w w':=by
 have a9:=JD j.pos j.few;have M:=fun W (r:kz w W)=>PagesG_is W g B (j.kO r);have N:=fun W (r:kz w W)=>ConfigG_is W g B (j.kO r);have aa:=fun W=>QE (P:=prog) underlying28 1 rfl isAgg3 #[ii B,ii 8,ii 24] rfl W;generalize pgs B=P at *;obtain⟨t,k⟩:=ex (w.alloc (.cells #[zz,zz,zz,zz,zz,zz,zz,zz,zz,zz,zz,zn,zn,zn] 240));have u:kz w t:=by rw[k];exact kq.alloc _
 have O:Blk t w.heap.size 240 #[zz,zz,zz,zz,zz,zz,zz,zz,zz,zz,zz,zn,zn,zn]:=by rw[k];exact Blk.new _ _ _
 have G:=M t u;have Q:madeCells (Value.agg #[zz,zz]).cells (8*2)=Array.replicate 16 (.int .i64 0):=Xp (.int .i64 0) 2 16 Z;go_enter func181,ntmps181;go_wp2_with fail;rw[<- k];clear k
 go_wp2_with (first
  | (go_at_call 245;refine G.mono ?_;clear G;rintro e w1 ⟨rfl,y⟩)
  | (at_make;refine elemIntsN.wp_make rfl _ _ rfl .i64 .i64 P rfl rfl Z Z ?_;intro R S T U V H;obtain rfl:S=w1.heap.size:=T;clear U;have l:=u.tO (y.tO H))
  | (go_at_call 86;refine(N _ l).mono ?_;rintro e b ⟨rfl,h⟩)
  | (at_make;refine elemUse.wp_make rfl _ _ rfl .i64 .i64 8 rfl rfl Z Z ?_;intro m X Y a0 c A;obtain rfl:X=b.heap.size:=Y;clear a0;rw[Q] at c;have ab:=c.lt;have f4:=c.frozen 0;have c4:cl m b.heap.size zz:=uq (c.cell 0)
     have a:=((((O.kO y).kO H).kO h).kO A);have I:w.heap.size≠b.heap.size:=fun e=>Blk.ne_ a c (by decide) e;obtain⟨r0,r1,r2,r3,r4,r5,r6,r7,r8,r9,ac,ad,ae,af⟩:=ZD a;have z0:=a.frozen 0;have z1:=a.frozen 1;have z2:=a.frozen 2;have z3:=a.frozen 3;have z4:=a.frozen 4;have z5:=a.frozen 5;have z6:=a.frozen 6;have z7:=a.frozen 7;have z8:=a.frozen 8;have z9:=a.frozen 9;have ag:=a.frozen 10;have ah:=a.frozen 11;have ai:=a.frozen 12;have aj:=a.frozen 13))
 have C:Keep [b.heap.size] m (m.setCell b.heap.size (.int .i64 1)):=kq.setCell (.inl sq) _;have J:=a.keep C (uq I);have a1:=c.set 0 (.int .i64 1);have a2:R.ownsRow w.heap.size 3 1 (.slice (some w1.heap.size) P P) P (YL (List.replicate P 0)):=YP (e:=3) (s:=1) (z:=.int .i64 0) V Z (AA u.size y.size) Z (by simp[YL,i64]) rfl;have K:=QB a2 (h.tO A);have L:=XB K C (fun x d i=>by simp at i;subst i;exact own_blk_ne K c (by decide) d);generalize (m.setCell b.heap.size (.int .i64 1))=w5 at *;have hz:=((((((((((((((J.set 0 (.int .i64 1)).set 1 (.int .i64 1)).set 2 (.int .i64 1)).set 3 (.int .i64 0)).set 4 (.int .i64 0)).set 5 (.int .i64 0)).set 6 (.int .i64 0)).set 7 (.int .i64 0)).set 8 (.int .i64 1)).set 9 (.int .i64 0)).set 10 (.int .i64 f)).set 11 (.slice (some w1.heap.size) P P)).set 12 (.slice (some w1.heap.size) P P)).set 13 (.slice (some b.heap.size) 8 8));have D:=(((((((((((((((Keep.refl [w.heap.size] w5).setCell (p:=⟨w.heap.size,0,none⟩) (.inl sq) (.int .i64 1)).setCell (p:=⟨w.heap.size,1,none⟩) (.inl sq) (.int .i64 1)).setCell (p:=⟨w.heap.size,2,none⟩) (.inl sq) (.int .i64 1)).setCell (p:=⟨w.heap.size,3,none⟩) (.inl sq) (.int .i64 0)).setCell (p:=⟨w.heap.size,4,none⟩) (.inl sq) (.int .i64 0)).setCell (p:=⟨w.heap.size,5,none⟩) (.inl sq) (.int .i64 0)).setCell (p:=⟨w.heap.size,6,none⟩) (.inl sq) (.int .i64 0)).setCell (p:=⟨w.heap.size,7,none⟩) (.inl sq) (.int .i64 0)).setCell (p:=⟨w.heap.size,8,none⟩) (.inl sq) (.int .i64 1)).setCell (p:=⟨w.heap.size,9,none⟩) (.inl sq) (.int .i64 0)).setCell (p:=⟨w.heap.size,10,none⟩) (.inl sq) (.int .i64 f)).setCell (p:=⟨w.heap.size,11,none⟩) (.inl sq) (.slice (some w1.heap.size) P P)).setCell (p:=⟨w.heap.size,12,none⟩) (.inl sq) (.slice (some w1.heap.size) P P)).setCell (p:=⟨w.heap.size,13,none⟩) (.inl sq) (.slice (some b.heap.size) 8 8));obtain⟨y0,y1,y2,y3,y4,y5,y6,y7,y8,y9,a3,a4,a5,a6⟩:=ZD (uq hz);have a7:kz w w5:=((l.tO h).tO A).trans C (fun x d=>.inr (by simp at d;subst d;exact AA l.size h.size));have a8:=a1.keep D (by simpa using fun e=>I e.symm)
 refine Af (v:=.agg #[ii 1,ii 1,ii 1,zz,zz,zz,zz,zz,ii 1,zz,ii f,.slice (some w1.heap.size) P P,.slice (some w1.heap.size) P P,.slice (some b.heap.size) 8 8]) (by simp[results,results181,go_sem,y0,y1,y2,y3,y4,y5,y6,y7,y8,y9,a3,a4,a5,a6]) rfl
  ⟨some ⟨w1.heap.size,0,none⟩,P,b.heap.size,8,rfl,XB L D (fun x d i=>by simp at i;subst i;exact own_blk_ne L J (by decide) d),?_,a7.trans D iq⟩
 exact⟨by simp[Kk],.inr ⟨b.heap.size,8,_,rfl,AA l.size h.size,a8,AG _,by simp[maxLen],sq,by simp[Kk]⟩⟩
theorem segsOk_first:VT ((1,0) :: List.replicate 7 (0,0)) 0:=by
 refine⟨rfl,by decide,fun k h=>?_⟩;have a:k<8:=h;have:k=0\/k=1\/k=2\/k=3\/k=4\/k=5\/k=6\/k=7:=Z;rcases this with rfl | rfl | rfl | rfl | rfl | rfl | rfl | rfl <;> simp
theorem JAe (w:World) (base:Nat) (b:List PPart) (h:∀ q∈b,∃ n,w.ownsRow base 5 1 q.v n (bys q.bs)):∀ u∈b.flatMap ptc,u.oneCell'=true:=by
 intro u a;obtain⟨q,d,a⟩:=Bk.1 a;obtain⟨n,f⟩:=h q d;obtain⟨A,c,e,_⟩:=ZB f;simp only[ptc,AM,C6,DW] at a;rcases a with rfl | rfl
 . rfl
 rw[e];rfl
def PtOk (w:World) (base n:Nat) (q:PPart):Prop:=∃ k,1<=k/\k<=2/\q.bs.length=64*k/\q.a+k<=n/\w.ownsRow base 5 1 q.v (64*k) (bys q.bs)
theorem PtOk.map {w':World} {q:PPart} (h:PtOk w base n q) (a:∀ {v:Value} {m:Nat} {ys:List Value},w.ownsRow base 5 1 v m ys->w'.ownsRow base 5 1 v m ys):PtOk w' base n q:=by
 obtain⟨k,b,c,d,e,f⟩:=h;exact⟨k,b,c,d,e,a f⟩
theorem KBr {R G:Prop} (f:R->G) (r:R):G:=f r
def YBm (q:PPart):Nat×List UInt8:=(q.a,q.bs)
def Yl (off:Nat) (x:Int) (B k:Nat):List (Nat×List UInt8):=(List.range k).map fun k=>(6+2*(k+off)+0,JY (List.replicate (min (B-15*k) 15) x))
theorem Ky (a:Nat) (x:Int) (B k:Nat):Yl a x B (k+1)=Yl a x B k++[(6+2*(k+a)+0,JY (List.replicate (min (B-15*k) 15) x))]:=by simp[Yl,CF]
theorem VAf (E:GeomAt w g B) (S:Bool) :
 Calls prog 287 #[pq g,.bool S] w fun e w'=>∃ (v:Value) (a:List PPart),e=.returned v/\w'.ownsRow w.heap.size 345 2 v a.length (a.flatMap ptc)/\a.length=pgs B /\
  (∀ q∈a,q.bs.length=64/\q.a<6+4*pgs B/\w'.ownsRow w.heap.size 5 1 q.v 64 (bys q.bs))/\a.map YBm=(bif S then Yl (pgs B) (-1) B (pgs B) else Yl 0 0 B (pgs B))/\kz w w':=by
 have ah:=JD E.pos E.few;have T:=PagesG_is w g B E;have a9:=fun W (F:kz w W)=>ConfigG_is W g B (E.kO F);have U:=fun(k:Nat) (F:k<pgs B) W (ac:kz w W)=>KAK W g B (E.kO ac) S k 0 Z F;have ai:=fun W=>QE (P:=prog) underlying28 0 rfl isAgg3 #[ii B,ii 8,ii 24] rfl W;have aj:=E.few;have aa:pgs B=(B+14) / 15:=rfl;have ab:=JB aa;clear aa;generalize pgs B=P at *;cases S
 . simp only[Aj,Bt,B8] at U
   go_enter func287,ntmps287;go_wp2_with (go_at_call 245;refine T.mono ?_;clear T;rintro e w1 ⟨rfl,G⟩)
   go_loopw [4,6,7,8,9,13] (fun v _ _ _ _ i wr=>∃ (k:Nat) (a:List PPart),k<=P/\i=.int .i64 (k:Nat)/\wr.ownsRow w.heap.size 345 2 v k (a.flatMap ptc)/\Hid (a.length=k) /\
    (∀ q∈a,q.bs.length=64/\q.a<6+4*P/\wr.ownsRow w.heap.size 5 1 q.v 64 (bys q.bs))/\Hid (a.map YBm=Yl 0 0 B k)/\kz w wr) (fun _ _ _ _ _ i _=>P-(intOf i).toNat)
   case atStart=>exact⟨0,[],AS _,rfl,Ab _ _ _ _,rfl,sq,rfl,G⟩
   clear G;obtain⟨k,a,F,rfl,d,H,I,J,f⟩:=hrel;by_cases V:k<P
   . have ad:((k:Nat):Int)<(P:Nat):=Z
     have ae:15*k<B:=by have:=JA ab;omega
     obtain⟨n,X,Y,a0,a1⟩:∃ n:Nat,min ((B:Int)-((k:Nat):Int)*15) 15=(n:Nat)/\0<n/\n<=15/\Hid (n=min (B-15*k) 15):=⟨min (B-k*15) 15,Z,Z,Z,JB Z⟩;obtain⟨p,r,rfl,_⟩:=ZB d;go_wp2_with (go_at_call 86;refine(a9 _ f).mono ?_;rintro e s ⟨rfl,a2⟩);clear X;have a3:kz s (s.alloc (.cells #[Value.int .i64 0] 3)):=kq.alloc _;have K:=Xt 1 (0) n Y Z (JT s (Value.int .i64 0) 3)
     go_wp2_with (first
      | (go_at_call 367
         refine K.mono ?_;clear K;rintro e w3 ⟨af,rfl,L,l⟩;obtain⟨a4,rc,rfl,_⟩:=ZB L;replace l:=(a2.tO a3).tO l
         have M:=YAJ (A:=a4) (n:=n) rc (List.replicate n (0)) (w:=w3) (by rw[show VM (List.replicate n (0))=List.replicate n (Value.int .i64 (0)) by simp[VM,i64]];exact Rd.of_own L) (fun z hz=>by rw[AV hz];omega) a0)
      | (go_at_call 221
         refine M.mono ?_;clear M;rintro e w4 ⟨u,rfl,t,h⟩;have N:(JY (List.replicate n (0))).length=64:=Za (by simp;omega);obtain⟨bs,y⟩:=ex (JY (List.replicate n (0)));rw[<- y] at t N;have a5:=JB y;clear y;obtain⟨C,D,rfl,_⟩:=ZB t;have O:=h
         replace h:=l.tO h)
      | (go_at_call 224
         refine(U k V _ (f.tO h)).mono ?_;rintro e m ⟨rfl,c⟩;replace O:=c
         replace c:=h.tO c)
      | (at_builtin
         have a6:=Rd.of_blk (n:=2) (Blk.new m 345 #[Value.int .i64 ((6+2*(k+0)+0:Nat)),.slice C 64 D]) sq;refine elemPart.wp_app rfl (.tmp 31) (.tmp 38) rfl w.heap.size (.slice p k r) k (a.flatMap ptc) rfl (KD (QB d c) _) _ 1 1 _ rfl a6 (by simp[Value.oneCell']) Z Z (AA f.size (AA c.size sq)) ?_;rintro ag w7 a7 Q _ _))
     have o:kz m (m.alloc (.cells #[Value.int .i64 ((6+2*(k+0)+0:Nat)),.slice C 64 D] 345)):=kq.alloc _;have a8:∀ x∈(Value.slice p k r).ownBlock.toList,w.heap.size<=x:=fun x j=>(own_mem d j).1
     have R:∀ {q:Value} {n:Nat} {ys:List Value},m.ownsRow w.heap.size 5 1 q n ys->w7.ownsRow w.heap.size 5 1 q n ys:=fun b=>
      XB (QB b o) Q (fun x j hm=>own_ne (QB b o) (QB d (c.tO o)) (by decide) j (uq hm))
     go_roundw
     case rel=>
      refine⟨k+1,a++[⟨6+2*(k+0)+0,Value.slice C 64 D,bs⟩],Z,by go_num,?_,by show _=_;rw[AE,JA H];rfl,fun q b=>?_,JB (by rw[BZ,JA J,Ky,<- JA a1,<- JA a5];rfl),(f.tO (c.tO o)).trans Q (fun x j=>.inr (a8 x j))⟩
      . rw[Az]
        exact a7
      rcases AD.1 b with b | b
      . obtain⟨q1,q2,q3⟩:=I q b
        exact⟨q1,q2,R (QB q3 c)⟩
      simp only[Ak] at b;subst b;exact⟨N,by simp only;omega,R (QB (ZC t (AA f.size l.size)) O)⟩
     case measure=>simp[intOf];omega
   obtain rfl:k=P:=Z;obtain⟨p,r,rfl,_⟩:=ZB d;go_wp2_with fail;go_ret;have e:=JA H;exact⟨_,a,rfl,by rw[e];exact d,e,I,JA J,f⟩
 simp only[Aj,Bt,B8] at U;go_enter func287,ntmps287;go_wp2_with (go_at_call 245;refine T.mono ?_;clear T;rintro e w1 ⟨rfl,G⟩)
 go_loopw [4,6,7,8,9,13] (fun v _ _ _ _ i wr=>∃ (k:Nat) (a:List PPart),k<=P/\i=.int .i64 (k:Nat)/\wr.ownsRow w.heap.size 345 2 v k (a.flatMap ptc)/\Hid (a.length=k) /\
  (∀ q∈a,q.bs.length=64/\q.a<6+4*P/\wr.ownsRow w.heap.size 5 1 q.v 64 (bys q.bs))/\Hid (a.map YBm=Yl P (-1) B k)/\kz w wr) (fun _ _ _ _ _ i _=>P-(intOf i).toNat)
 case atStart=>exact⟨0,[],AS _,rfl,Ab _ _ _ _,rfl,sq,rfl,G⟩
 clear G;obtain⟨k,a,F,rfl,d,H,I,J,f⟩:=hrel;by_cases V:k<P
 . have ad:((k:Nat):Int)<(P:Nat):=Z
   have ae:15*k<B:=by have:=JA ab;omega
   obtain⟨n,X,Y,a0,a1⟩:∃ n:Nat,min ((B:Int)-((k:Nat):Int)*15) 15=(n:Nat)/\0<n/\n<=15/\Hid (n=min (B-15*k) 15):=⟨min (B-k*15) 15,Z,Z,Z,JB Z⟩;obtain⟨p,r,rfl,_⟩:=ZB d;go_wp2_with (go_at_call 86;refine(a9 _ f).mono ?_;rintro e s ⟨rfl,a2⟩);clear X;have a3:kz s (s.alloc (.cells #[Value.int .i64 (-1)] 3)):=kq.alloc _;have K:=Xt 1 (-1) n Y Z (JT s (Value.int .i64 (-1)) 3)
   go_wp2_with (first
    | (go_at_call 367
       refine K.mono ?_;clear K;rintro e w3 ⟨af,rfl,L,l⟩;obtain⟨a4,rc,rfl,_⟩:=ZB L;replace l:=(a2.tO a3).tO l
       have M:=YAJ (A:=a4) (n:=n) rc (List.replicate n (-1)) (w:=w3) (by rw[show VM (List.replicate n (-1))=List.replicate n (Value.int .i64 (-1)) by simp[VM,i64]];exact Rd.of_own L) (fun z hz=>by rw[AV hz];omega) a0)
    | (go_at_call 221
       refine M.mono ?_;clear M;rintro e w4 ⟨u,rfl,t,h⟩;have N:(JY (List.replicate n (-1))).length=64:=Za (by simp;omega);obtain⟨bs,y⟩:=ex (JY (List.replicate n (-1)));rw[<- y] at t N;have a5:=JB y;clear y;obtain⟨C,D,rfl,_⟩:=ZB t;have O:=h
       replace h:=l.tO h)
    | (go_at_call 224
       refine(U k V _ (f.tO h)).mono ?_;rintro e m ⟨rfl,c⟩;replace O:=c
       replace c:=h.tO c)
    | (at_builtin
       have a6:=Rd.of_blk (n:=2) (Blk.new m 345 #[Value.int .i64 ((6+2*(k+P)+0:Nat)),.slice C 64 D]) sq;refine elemPart.wp_app rfl (.tmp 31) (.tmp 38) rfl w.heap.size (.slice p k r) k (a.flatMap ptc) rfl (KD (QB d c) _) _ 1 1 _ rfl a6 (by simp[Value.oneCell']) Z Z (AA f.size (AA c.size sq)) ?_;rintro ag w7 a7 Q _ _))
   have o:kz m (m.alloc (.cells #[Value.int .i64 ((6+2*(k+P)+0:Nat)),.slice C 64 D] 345)):=kq.alloc _;have a8:∀ x∈(Value.slice p k r).ownBlock.toList,w.heap.size<=x:=fun x j=>(own_mem d j).1
   have R:∀ {q:Value} {n:Nat} {ys:List Value},m.ownsRow w.heap.size 5 1 q n ys->w7.ownsRow w.heap.size 5 1 q n ys:=fun b=>
    XB (QB b o) Q (fun x j hm=>own_ne (QB b o) (QB d (c.tO o)) (by decide) j (uq hm))
   go_roundw
   case rel=>
    refine⟨k+1,a++[⟨6+2*(k+P)+0,Value.slice C 64 D,bs⟩],Z,by go_num,?_,by show _=_;rw[AE,JA H];rfl,fun q b=>?_,JB (by rw[BZ,JA J,Ky,<- JA a1,<- JA a5];rfl),(f.tO (c.tO o)).trans Q (fun x j=>.inr (a8 x j))⟩
    . rw[Az]
      exact a7
    rcases AD.1 b with b | b
    . obtain⟨q1,q2,q3⟩:=I q b
      exact⟨q1,q2,R (QB q3 c)⟩
    simp only[Ak] at b;subst b;exact⟨N,by simp only;omega,R (QB (ZC t (AA f.size l.size)) O)⟩
   case measure=>simp[intOf];omega
 obtain rfl:k=P:=Z;obtain⟨p,r,rfl,_⟩:=ZB d;go_wp2_with fail;go_ret;have e:=JA H;exact⟨_,a,rfl,by rw[e];exact d,e,I,JA J,f⟩
def Vc (D:PDisk) (l:List (Nat×List UInt8)):PDisk:=l.foldl (fun D p=>Ye D p.1 p.2 (p.2.length / 64)) D
theorem JAK (D:PDisk) (l m:List (Nat×List UInt8)):Vc D (l++m)=Vc (Vc D l) m:=List.foldl_append ..
def reg0:PReg:=⟨1,1,1,0,0,0,⟨0,0,1,0,1⟩⟩
def us0:List (Nat×Nat):=(1,0) :: List.replicate 7 (0,0)
def QAE (B:Nat):List UInt8:=VBm reg0 (pgs B) (List.replicate (pgs B) 0) (List.replicate (pgs B) 0) us0
def JAB (B:Nat):List (Nat×List UInt8):=
 ((Yl 0 0 B (pgs B)++Yl (pgs B) (-1) B (pgs B))++[(2,QAE B),(4,List.replicate 128 0)])++[(0,List.replicate 64 0),(1,VAP B 1 1)]
def ZBe (n B:Nat):PDisk:=(Vc (PDisk.new n) (JAB B)).flush
theorem JBB (n B:Nat) (an:1<=B) (ao:B<=64) (hn:n=198+4*pgs B) (h:DiskAt w base d F (PDisk.new n)) (e3:base<=w.heap.size) :
 Calls prog 180 #[pq d,.agg #[ii B,ii 8,ii 24],ii 1] w fun e w'=>e=.returned (.tuple #[ii 1,zz]) /\
  ∃ F' D,DiskAt w' base d F' D/\D=ZBe n B/\D.n=n/\D.off=false/\D.fuse = -1/\D.acts<=200/\D.faults=List.replicate n false/\Keep F w w'/\Grow w F F':=by
 have bn:=fun W=>VAX W B an ao;have bo:∀ W,kz w W->cq 282 #[pq d] W n:=fun W (hk:kz w W)=>QAA W base d F (PDisk.new n) (h.kO hk);have r:=Blk.new w 28 #[ii B,ii 8,ii 24];have bp:=fun W (hk:kz w W)=>VBM n Z (h.kO hk);have bq:∀ W,Calls prog 285 #[.agg #[ii B,ii 8,ii 24,ii 1,ii 1]] W fun e w'=>∃ u,e=.returned (.tuple #[u,zz])/\w'.ownsRow W.heap.size 5 1 u 64 (bys (VAP B 1 1))/\kz W w':=fun W=>KAa B 1 1 an ao Z Z W;have br:PReg.May ⟨1,1,1,0,0,0,⟨0,0,1,0,1⟩⟩:=by simp[PReg.May,PPos.May]
 have e4:=JD an ao;go_enter func180,ntmps180
 go_wp2_with (first
  | (go_at_call 32
     refine(bn _).mono ?_;clear bn;rintro e w1 ⟨g,rfl,f,d7,ap⟩;have ar:=SectorsG_is w1 g B f;rw[<- hn] at ar;replace r:=r.kO ap
     have c:kz w w1:=(kq.alloc _).tO ap)
  | (go_at_call 282;refine(bo _ c).mono ?_;clear bo;rintro e w' ⟨rfl,rfl⟩)
  | (go_at_call 254
     refine ar.mono ?_;clear ar;rintro e w2 ⟨rfl,M⟩;replace c:=c.tO M;replace f:=f.kO M
     replace r:=r.kO M)
  | (go_at_call 283
     refine(bp _ c).mono ?_;clear bp;rintro e w3 ⟨au,av,aw,ax,rfl,bs,bt,ab⟩;replace c:=c.tO ab;replace f:=f.kO ab;replace r:=r.kO ab
     have bu:=ZAl (A:=au) (B:=aw) av ax ((Rd.of_own bs).keep (kq.alloc (.cells #[.slice au 64 av,.slice aw 64 ax] 334))) ((Rd.of_own bt).keep (kq.alloc (.cells #[.slice au 64 av,.slice aw 64 ax] 334))))
  | (go_at_call 284
     refine bu.mono ?_;clear bu;rintro e w4 ⟨rfl,ac⟩;replace c:=c.tO ((kq.alloc _).tO ac);replace f:=f.kO ((kq.alloc _).tO ac);replace r:=r.kO ((kq.alloc _).tO ac);obtain⟨k0,k1,k2⟩:cl w4 w.heap.size (ii B)/\cl w4 (aq w.heap.size 1) (ii 8)/\cl w4 (aq w.heap.size 2) (ii 24):=⟨uq (r.cell 0),uq (r.cell 1),uq (r.cell 2)⟩
     have d8:=r.lt)
  | (go_at_call 285
     refine(bq _).mono ?_;clear bq;rintro e w5 ⟨su,rfl,m,ay⟩;have az:=length_supB B 1 1;obtain⟨d9,b0⟩:=ex (VAP B 1 1);rw[<- b0] at m az;have bv:=JB b0;clear b0;obtain⟨y,C,rfl,_⟩:=ZB m;replace m:=ZC m (c.alloc _).size;replace c:=(c.alloc _).tO ay;replace f:=f.kO ((kq.alloc _).tO ay)
     have bw:Calls prog 181 #[pq g,ii 1] w5 _:=ZBR f 1)
  | (go_at_call 181
     refine bw.mono ?_;clear bw;rintro e w6 ⟨e5,sc,da,uc,rfl,b1,bx,ad⟩;replace c:=c.tO ad;replace f:=f.kO ad;replace m:=QB m ad
     have bz:=KAX f br sc (List.replicate (pgs B) 0) sc (List.replicate (pgs B) 0) (Rd.of_own b1) (Rd.of_own b1) (fun z hz=>by rw[AV hz];omega) (fun z hz=>by rw[AV hz];omega) da uc (Rd.of_ownN bx) segsOk_first)
  | (go_at_call 226
     refine bz.mono ?_;clear bz b1 bx;rintro e w7 ⟨ru,rfl,p,ae⟩;have b2:(QAE B).length=128:=Je _ _ _ _ rfl;replace p:w7.ownsRow w6.heap.size 5 1 ru 128 (bys (QAE B)):=p;obtain⟨db,b3⟩:=ex (QAE B);rw[<- b3] at p b2;have c2:=JB b3;clear b3;obtain⟨af,ag,rfl,_⟩:=ZB p;replace p:=ZC p c.size;replace c:=c.tO ae;replace f:=f.kO ae;replace m:=QB m ae
     have c4:=VAf f false)
  | (go_at_call 287
     refine c4.mono ?_;clear c4;rintro e w8 ⟨v8,v,rfl,N,b4,a2,c5,a3⟩;have c6:=JB c5;clear c5;have c7:∀ q∈v,PtOk w8 w.heap.size n q:=fun q a=>⟨1,Z,Z,(a2 q a).1,by have:=(a2 q a).2.1;omega,ZC (a2 q a).2.2 c.size⟩;replace N:=ZC N c.size;replace c:=c.tO a3;replace f:=f.kO a3;replace m:=QB m a3;replace p:=QB p a3
     have c8:=VAf f true)
  | (go_at_call 287
     refine c8.mono ?_;clear c8;rintro e w9 ⟨v9,E,rfl,ah,b5,a4,c9,O⟩;have ca:=JB c9;clear c9
     have cb:∀ q∈v++E,PtOk w9 w.heap.size n q:=fun q a=>by
      rcases AD.1 a with a | a
      . exact(c7 q a).map (fun h=>QB h O)
      exact⟨1,Z,Z,(a4 q a).1,by have:=(a4 q a).2.1;omega,ZC (a4 q a).2.2 c.size⟩
     have cc:(v++E).length=pgs B+pgs B:=by rw[AE,b4,b5]
     replace c:=c.tO O;replace f:=f.kO O;replace m:=QB m O;replace p:=QB p O;replace N:=QB N O;obtain⟨P,Q,e8,b6,dc⟩:=JE N Z;obtain⟨R,S,e9,b7,dd⟩:=JE ah Z;rw[b4] at e8 b6 N;rw[b5] at e9 b7 ah;subst e8;subst e9
     have cd:=QAj (A:=(some ⟨w9.heap.size,0,none⟩)) (n:=2) 2 (ls:=[(.slice (some P) (pgs B) Q,pgs B,v.flatMap ptc),(.slice (some R) (pgs B) S,pgs B,E.flatMap ptc)]) (w:=(w9.alloc (.cells #[.slice (some P) (pgs B) Q,.slice (some R) (pgs B) S] 342)))
      ⟨Rd.of_blk (n:=2) (Blk.new w9 342 #[.slice (some P) (pgs B) Q,.slice (some R) (pgs B) S]) sq,fun q a=>by
        simp only[AM,C6,DW] at a;rcases a with rfl | rfl
        . exact⟨⟨⟨P,0,none⟩,Q,rfl,b6,(Rd.of_ownN N).keep (kq.alloc _)⟩,JAe _ _ v (fun q a=>⟨_,(a2 q a).2.2⟩),by show pgs B<=1000;omega⟩
        . exact⟨⟨⟨R,0,none⟩,S,rfl,b7,(Rd.of_ownN ah).keep (kq.alloc _)⟩,JAe _ _ E (fun q a=>⟨_,(a4 q a).2.2⟩),by show pgs B<=1000;omega⟩⟩ (by simp[XAE];omega) (by simp[XAE];omega) Z)
  | (go_at_call 286
     refine cd.mono ?_;clear cd;rintro e t ⟨e6,rfl,I,ce⟩;have cf:XAE [(Value.slice (some P) (pgs B) Q,pgs B,v.flatMap ptc),(.slice (some R) (pgs B) S,pgs B,E.flatMap ptc)]=2*pgs B:=by simp[XAE];omega
     have cg:VBY [(Value.slice (some P) (pgs B) Q,pgs B,v.flatMap ptc),(.slice (some R) (pgs B) S,pgs B,E.flatMap ptc)]=(v++E).flatMap ptc:=by simp[VBY]
     rw[cf,cg] at I;clear cf cg;obtain⟨G,b8⟩:=ex (2*pgs B);rw[<- b8] at I;have de:G<=10:=Z;have ch:=JB b8;clear b8;replace I:=ZC I (c.alloc _).size;obtain⟨df,dg,rfl,_⟩:=ZB I;have Y:=((Keep.refl [] w9).alloc (.cells #[.slice (some P) (pgs B) Q,.slice (some R) (pgs B) S] 342)).tO ce;replace c:=c.tO Y;have ci:∀ q∈v++E,PtOk t w.heap.size n q:=fun q a=>(cb q a).map (fun h=>QB h Y);replace f:=f.kO Y;replace m:=QB m Y;replace p:=QB p Y;have cj:cq 229 #[pq g,zz] t (ii 2):=Vd t g B f 0 Z;have ck:cq 229 #[pq g,ii 1] t (ii 4):=Vd t g B f 1 Z
     have cm:=RegionLenG_is t g B f)
  | (go_at_call 229;refine cj.mono ?_;clear cj;rintro e w' ⟨rfl,rfl⟩)
  | (go_at_call 229;refine ck.mono ?_;clear ck;rintro e w' ⟨rfl,rfl⟩)
  | (go_at_call 244;refine cm.mono ?_;clear cm;rintro e w' ⟨rfl,rfl⟩)
  | (at_make
     refine elem8N.wp_make rfl _ _ rfl .i64 .i64 128 rfl rfl Z Z ?_;intro a5 dh di dj cn T;obtain rfl:dh=t.heap.size:=di
     clear dj)
  | (at_builtin
     refine elemPart.wp_app rfl (.tmp 93) (.tmp 105) rfl w.heap.size (.slice df G dg) G ((v++E).flatMap ptc) rfl (KD (QB I T) _) ⟨a5.heap.size,0,none⟩ 2 2 [.int .i64 2,.slice af 128 ag,.int .i64 4,.slice (some t.heap.size) 128 128] rfl (by
      have:=Rd.of_blk (n:=4) (Blk.new a5 345 #[ii 2,.slice af 128 ag,ii 4,.slice (some t.heap.size) 128 128]) sq;exact this) (by simp[Value.oneCell']) Z Z (AA c.size (AA T.size sq)) ?_
     intro dk b U b9 _ _;have ba:kz t (a5.alloc (.cells #[ii 2,.slice af 128 ag,ii 4,.slice (some t.heap.size) 128 128] 345)):=T.alloc _;have H:∀ {q:Value} {n:Nat} {ys:List Value},a5.ownsRow w.heap.size 5 1 q n ys->b.ownsRow w.heap.size 5 1 q n ys:=fun a=>XB (KD a _) b9 (fun x j J=>own_ne (KD a _) (QB I ba) (by decide) j (uq J));have co:a5.ownsRow w.heap.size 5 1 (.slice (some t.heap.size) 128 128) 128 (bys (List.replicate 128 0)):=YP (e:=5) (s:=1) (z:=.int .u8 0) cn Z c.size Z (by simp[bys,by8]) rfl;have cp:=H (QB m T);obtain⟨a6,a7⟩:=ex ((v++E)++[⟨2,.slice af 128 ag,db⟩,⟨4,.slice (some t.heap.size) 128 128,List.replicate 128 0⟩]);have cr:a6.length=G+2:=by rw[a7,AE,cc,JA ch];simp;omega
     have cs:∀ q∈a6,PtOk b w.heap.size n q:=fun q a=>by
      rw[a7] at a;simp only[AD,AM,C6,DW] at a;rcases a with a | rfl | rfl
      . exact(ci q (uq a)).map (fun h=>H (QB h T))
      . exact⟨2,Z,Z,b2,by simp only;omega,H (QB p T)⟩
      exact⟨2,Z,Z,sq,by simp only;omega,H co⟩
     replace U:b.ownsRow w.heap.size 345 2 dk (G+2) (a6.flatMap ptc):=by rw[a7,Az];exact U
     have ai:kz w b:=(c.tO ba).trans b9 (fun x j=>.inr (own_mem I j).1);obtain⟨dl,dm,rfl,_⟩:=ZB U))
 have ct:=JB a7;clear a7 H co ci cb c7 a2 a4 p m N ah I cc b4 b5 T b9 cn;have aj:∀ W:World,(Instr.makeSlice 66 (.int .i64 64) (.int .i64 64)).run prog W=.ok (.slice (some (aq W.heap.size 0)) 64 64) (W.alloc (.cells (Array.replicate 64 (.int .u8 0)) 5)):=fun W=>elem8.run_make .i64 .i64 64 64 Z Z Z W;have bb:∀ W,cq 288 #[pq g,zz] W zz:=fun W=>ZAC W g 0 Z;have ak:∀ W,cq 288 #[pq g,ii 1] W (ii 1):=fun W=>ZAC W g 1 Z;refine ZR (fun _=>True) 15 (.held 0 (.held 1 (.held 2 (.held 3 (.held 4 (.held 8 (.held 9 (.held 10 (.held 12 (.two 5 (.two 6 (.held 7 (.loud 11 (.held 13 (.loud 14 .nil)))) 11 (.held 13 (.loud 6 (.held 7 (.loud 14 .nil))))) 6 (.loud 5 (.held 7 (.loud 11 (.held 13 (.loud 14 .nil))))))))))))))) trivial ?_;simp only[RT.pick,PJ];iterate 9 refine wW ?_
 refine @KBr ?R _ (fun bc=>?_) ?_;rotate_left
 . refine wpR_two ?_ ?_
   . refine wpR_loud rq fun K l=>?_
     go_wp2_with (refine(bb _).mono ?_;rintro e w' ⟨rfl,rfl⟩);refine l _ _ (trivial) ?_
     try simp only[Act.put,PU]
     refine wpR_two ?_ ?_
     . refine wpR_loud rq fun K l=>?_
       have cu:=aj b.drew;go_wp2_with fail;refine l _ _ (trivial) ?_;iterate 1 refine wW ?_
       refine wpR_loud rq fun K l=>?_;go_wp2_with (refine(ak _).mono ?_;rintro e w' ⟨rfl,rfl⟩);refine l _ _ (trivial) ?_;iterate 1 refine wW ?_
       refine wpR_loud rq fun K l=>?_;go_wp2_with fail;refine l _ _ (trivial) ?_
       try simp only[Act.put,PU]
       refine wpR_nil ?_;exact bc
     refine wpR_loud rq fun K l=>?_;go_wp2_with (refine(ak _).mono ?_;rintro e w' ⟨rfl,rfl⟩);refine l _ _ (trivial) ?_;iterate 1 refine wW ?_
     refine wpR_loud rq fun K l=>?_;have cu:=aj b.drew;go_wp2_with fail;refine l _ _ (trivial) ?_;iterate 1 refine wW ?_
     refine wpR_loud rq fun K l=>?_;go_wp2_with fail;refine l _ _ (trivial) ?_
     try simp only[Act.put,PU]
     refine wpR_nil ?_;exact bc
   refine wpR_loud rq fun K l=>?_;have cu:=aj b.drew;go_wp2_with fail;refine l _ _ (trivial) ?_
   try simp only[Act.put,PU]
   refine wpR_loud rq fun K l=>?_;go_wp2_with (refine(bb _).mono ?_;rintro e w' ⟨rfl,rfl⟩);refine l _ _ (trivial) ?_;iterate 1 refine wW ?_
   refine wpR_loud rq fun K l=>?_;go_wp2_with (refine(ak _).mono ?_;rintro e w' ⟨rfl,rfl⟩);refine l _ _ (trivial) ?_;iterate 1 refine wW ?_
   refine wpR_loud rq fun K l=>?_;go_wp2_with fail;refine l _ _ (trivial) ?_
   try simp only[Act.put,PU]
   refine wpR_nil ?_;exact bc
 have cv:(b.alloc (.cells (Array.replicate 64 (.int .u8 0)) 5)).ownsRow w.heap.size 5 1 (.slice (some b.heap.size) 64 64) 64 (bys (List.replicate 64 0)):=
  XS (Blk.new b 5 _) ai.size Z sq (by simp[bys,by8])
 have cw:Blk (((b.alloc (.cells (Array.replicate 64 (.int .u8 0)) 5)).alloc (.cells #[zz,.slice (some b.heap.size) 64 64,ii 1,.slice y 64 C] 345)).drew) (b.heap.size+1) 345 #[zz,.slice (some b.heap.size) 64 64,ii 1,.slice y 64 C]:=by
  have:=Blk.new (b.alloc (.cells (Array.replicate 64 (.int .u8 0)) 5)) 345 #[zz,.slice (some b.heap.size) 64 64,ii 1,.slice y 64 C];rw[show (b.alloc (.cells (Array.replicate 64 (.int .u8 0)) 5)).heap.size=b.heap.size+1 from sq] at this;exact this.drew
 have V:kz b (((b.alloc (.cells (Array.replicate 64 (.int .u8 0)) 5)).alloc (.cells #[zz,.slice (some b.heap.size) 64 64,ii 1,.slice y 64 C] 345)).drew):=((kq.alloc _).alloc _).drew;have cx:=(KD cv (.cells #[zz,.slice (some b.heap.size) 64 64,ii 1,.slice y 64 C] 345)).drew;have dn:b.heap.size+2=(((b.alloc (.cells (Array.replicate 64 (.int .u8 0)) 5)).alloc (.cells #[zz,.slice (some b.heap.size) 64 64,ii 1,.slice y 64 C] 345)).drew).heap.size:=sq;generalize (((b.alloc (.cells (Array.replicate 64 (.int .u8 0)) 5)).alloc (.cells #[zz,.slice (some b.heap.size) 64 64,ii 1,.slice y 64 C] 345)).drew)=w14 at *;have cy:Rd w14 (some ⟨b.heap.size+1,0,none⟩) 4 [.int .i64 0,.slice (some b.heap.size) 64 64,.int .i64 1,.slice y 64 C]:=Rd.of_blk (n:=4) cw sq;have dp:b.heap.size+1<w14.heap.size:=Z;clear cw cv aj dn;refine elemPart.wp_app rfl (.tmp 107) (.tmp 121) rfl w.heap.size (.slice dl (G+2) dm) (G+2) (a6.flatMap ptc) rfl (QB U V) ⟨b.heap.size+1,0,none⟩ 2 2 [.int .i64 0,.slice (some b.heap.size) 64 64,.int .i64 1,.slice y 64 C] rfl cy (by simp[Value.oneCell']) Z Z (AA ai.size V.size) ?_;intro dq a0 X bd _ _;have H:∀ {q:Value} {n:Nat} {ys:List Value},w14.ownsRow w.heap.size 5 1 q n ys->a0.ownsRow w.heap.size 5 1 q n ys:=fun a=>XB a bd (fun x j J=>own_ne a (QB U V) (by decide) j (uq J));obtain⟨o,a8⟩:=ex (a6++[⟨0,.slice (some b.heap.size) 64 64,List.replicate 64 0⟩,⟨1,.slice y 64 C,d9⟩])
 have dr:Hid (o.map YBm=JAB B):=JB (by
  rw[a8,JA ct,BZ,BZ,BZ,JA c6,JA ca];simp only[CN,C4,YBm,JA c2,JA bv];rfl)
 have cz:o.length=G+2+2:=by rw[a8,AE,cr];rfl
 have ds:∀ q∈o,PtOk a0 w.heap.size n q:=fun q a=>by
  rw[a8] at a;simp only[AD,AM,C6,DW] at a;rcases a with a | rfl | rfl
  . exact(cs q a).map (fun h=>H (QB h V))
  . exact⟨1,Z,Z,sq,by simp only;omega,H cx⟩
  exact⟨1,Z,Z,az,by simp only;omega,H (QB cp V)⟩
 replace X:a0.ownsRow w.heap.size 345 2 dq (G+2+2) (o.flatMap ptc):=by rw[a8,Az];exact X
 have bf:kz w a0:=(ai.tO V).trans bd (fun x j=>.inr (own_mem U j).1);obtain⟨e7,ea,rfl,_⟩:=ZB X;obtain⟨a1,d0⟩:=ex (G+2+2);rw[<- d0] at X cz ⊢;have eb:a1<=14:=Z;obtain⟨vb,vc,ev,ec,ed⟩:=JE X Z;injection ev with ev1 _ ev3;subst ev1 ev3;have dt:=h.kO bf;have bg:∀ x∈F,x<w.heap.size:=h.lt;have ee:=bf.size;clear c6 ca c2 bv;clear H a8 ct cs V cx cy dp bd ai U cr cp az bb ak f c ch de d0 d7 r br h b2 d8 ba k0 k1 k2;clear ap M ab ac ay ad ae a3 O ce Y bs bt b6 b7 dc dd;go_wp2_with fail;go_loopw [6,7,17,18,125] (fun mo eo _ _ i wr=>∃ (k:Nat) (F':List Nat) (D:PDisk),k<=a1/\i=.int .i64 (k:Nat)/\mo=.int .i64 1/\eo=.int .i64 0/\DiskAt wr base d F' D/\Hid (D=Vc (PDisk.new n) ((o.take k).map YBm))/\D.n=n/\D.off=false/\D.fuse = -1/\D.acts<=2*k/\D.faults=List.replicate n false/\(∀ x∈F',x∈F\/a0.heap.size<=x)/\Keep F a0 wr) (fun _ _ _ _ i _=>a1-(intOf i).toNat)
 case atStart=>exact⟨0,F,PDisk.new n,AS _,rfl,rfl,rfl,dt,rfl,rfl,rfl,rfl,AS _,rfl,fun x j=>.inl j,kq⟩
 obtain⟨k,F',D,hk,rfl,rfl,rfl,d1,d2,d3,al,am,ef,d4,a9,L⟩:=hrel;have bh:=XB X L (fun x j J=>by have:=bg x J;have:=own_mem X (g:=x) (uq j);omega);by_cases du:k<a1
 . have eg:((k:Nat):Int)<(a1:Nat):=Z
   have bi:k<o.length:=by rw[cz];exact du
   have dv:cl wr (aq vb (k*2)) (o[k].a:Nat):=XQ bh (by rw[show k*2=k*2+0 from rfl,JP VAI o k 0 bi Z];rfl);have dw:wr.cell? (aq vb (k*2+1))=some o[k].v:=XQ bh (by rw[JP VAI o k 1 bi Z];rfl);obtain⟨kk,dx,eh,bj,dy,aa⟩:=ds o[k] (AQ _);have dz:Hid (o.take (k+1)=o.take k++[o[k]]):=JB (AO bi);generalize o[k]=q at *;obtain⟨qa,qv,qb⟩:=q;simp only at dv dw bj dy aa;obtain⟨qg,qc,rfl,e0⟩:=QN aa Z;have ei:=own_mem aa (g:=qg) (by simp[Value.ownBlock]);have e1:=XB aa L (fun x j J=>by have:=bg x J;have:=own_mem aa (g:=x) (uq j);omega);have d5:=JBZ (w:=(wr.alloc (.cells #[qa,.slice (some qg) (64*kk) qc] 345))) (base:=base) (d:=d) (F:=F') (D:=D) (d1.kO (kq.alloc _)) al am (by have:=L.size;simp;omega) qa kk qg 0 qc qb dx Z bj e0 Z Z ((Rd.of_own e1).keep (kq.alloc _)) (by have:=L.size;simp;omega) (fun J=>by rcases a9 _ J with h | h;(have:=bg _ h;omega);omega);have ej:=ZBL bh
   go_wp2_with (go_at_call 228
                refine d5.mono ?_;clear d5;rintro e e2 ⟨rfl,bk,bl,M,bm⟩)
   go_roundw
   case rel=>
    obtain⟨l1,l2,l3,l4,l5,_⟩:=YN D qa qb kk;refine⟨k+1,bk,_,Z,by go_num,rfl,rfl,bl,JB (by rw[JA dz,BZ,JAK,<- JA d2];show _=Ye D qa qb (qb.length / 64);rw[bj,Nat.mul_div_cancel_left _ Z]),l1.trans d3,l2.trans al,l3.trans am,by rw[l4];omega,l5.trans d4,fun x j=>?_,L.trans (((Keep.refl [] wr).alloc (.cells #[qa,.slice (some qg) (64*kk) qc] 345)).zero.trans M (fun x j=>.inl j)) (fun x j=>a9 x j)⟩;rcases bm x j with h | h
    . exact a9 x h
    have:=L.size;simp at h;right;omega
   case measure=>simp[intOf];omega
 obtain rfl:a1=k:=Z;have d6:=Vp d1 al am Z (by have:=L.size;omega);go_wp2_with (refine d6.mono ?_;clear d6;rintro e e2 ⟨rfl,bk,bl,M,bm⟩);go_ret2;refine⟨rfl,bk,D.flush,bl,by rw[JA d2,AH Z,JA dr];rfl,d3,al,am,by show D.acts+1<=200;omega,d4,?_,?_⟩
 . exact(bf.zero.trans L (fun x j=>.inl j)).trans M (fun x j=>by rcases a9 x j with h | h;(exact .inl h);(right;omega))
 intro x j;rcases bm x j with h | h
 . rcases a9 x h with h | h
   . exact .inl h
   right;omega
 right;have:=L.size;omega
def VBW (p:Nat×List UInt8) (x:Nat):Prop:=p.1<=x/\x<p.1+p.2.length / 64
theorem Ym (l:List (Nat×List UInt8)):∀ D:PDisk,D.now.length=D.n*64->(∀ p∈l,p.1+p.2.length / 64<=D.n) ->
 (Vc D l).n=D.n/\(Vc D l).now.length=D.n*64/\∀ x,(∀ p∈l,¬ VBW p x)->seg 64 (Vc D l).now x=seg 64 D.now x:=by
 induction l with
 | nil=>exact fun D a _=>⟨rfl,a,fun x _=>rfl⟩
 | cons q l ih=>
   intro D a d;obtain⟨f,g⟩:=Xk D q.1 q.2 (q.2.length / 64) a (d q sq) Z;have b:=(YN D q.1 q.2 (q.2.length / 64)).1;obtain⟨h,i,j⟩:=ih (Ye D q.1 q.2 (q.2.length / 64)) f (fun p c=>by rw[b];exact d p (by simp[c]));refine⟨h.trans b,by rw[<- b];exact i,fun x e=>?_⟩;have k:=j x (fun p c=>e p (by simp[c]));refine k.trans ?_;rw[g];exact AL (e q sq)
theorem QAo (i:VBW p x) (l:List (Nat×List UInt8)):∀ D:PDisk,D.now.length=D.n*64->(∀ q∈l,q.1+q.2.length / 64<=D.n)->p∈l->(∀ q∈l,VBW q x->q=p) ->
 seg 64 (Vc D l).now x=seg 64 p.2 (x-p.1):=by
 induction l with
 | nil=>intro D _ _ b;simp at b
 | cons q l ih=>
   intro D j d b e;obtain⟨f,k⟩:=Xk D q.1 q.2 (q.2.length / 64) j (d q sq) Z;have m:=(YN D q.1 q.2 (q.2.length / 64)).1;have g:∀ r∈l,r.1+r.2.length / 64<=(Ye D q.1 q.2 (q.2.length / 64)).n:=fun r a=>by rw[m];exact d r (by simp[a])
   by_cases c:p∈l
   . exact ih (Ye D q.1 q.2 (q.2.length / 64)) f g c (fun r a=>e r (by simp[a]))
   obtain rfl:p=q:=by
    rcases AM.1 b with h | h
    . exact h
    exact absurd h c
   refine((Ym l _ f g).2.2 x (fun r a n=>c (e r (by simp[a]) n ▸ a))).trans ?_;rw[k];exact AP i
theorem XW (B:Nat) (p:Nat×List UInt8):p∈JAB B↔p=(0,List.replicate 64 0)\/p=(1,VAP B 1 1)\/p=(2,QAE B)\/p=(4,List.replicate 128 0) \/
 (∃ k,k<pgs B/\p=(6+2*k,JY (List.replicate (min (B-15*k) 15) 0)))\/(∃ k,k<pgs B/\p=(6+2*(k+pgs B),JY (List.replicate (min (B-15*k) 15) (-1)))):=by
 unfold JAB Yl;simp only[AD,Cv,List.mem_range,AM,C6,DW,BV];constructor
 . rintro(((⟨k,a,rfl⟩ | ⟨k,a,rfl⟩) | h | h) | h | h)
   . exact .inr (.inr (.inr (.inr (.inl ⟨k,a,rfl⟩))))
   . exact .inr (.inr (.inr (.inr (.inr ⟨k,a,rfl⟩))))
   . exact .inr (.inr (.inl h))
   . exact .inr (.inr (.inr (.inl h)))
   . exact .inl h
   exact .inr (.inl h)
 rintro(h | h | h | h | ⟨k,a,h⟩ | ⟨k,a,h⟩)
 . exact .inr (.inl h)
 . exact .inr (.inr h)
 . exact .inl (.inr (.inl h))
 . exact .inl (.inr (.inr h))
 . exact .inl (.inl (.inl ⟨k,a,h.symm⟩))
 exact .inl (.inl (.inr ⟨k,a,h.symm⟩))
theorem Qv (B:Nat):(QAE B).length=128:=Je _ _ _ _ rfl
theorem Qb (B k:Nat) (x:Int):(JY (List.replicate (min (B-15*k) 15) x)).length=64:=Za (by simp;omega)
theorem Yi (h:p∈JAB B):p.2.length / 64=if p.1=2\/p.1=4 then 2 else 1:=by
 rcases(XW B p).1 h with rfl | rfl | rfl | rfl | ⟨k,hk,rfl⟩ | ⟨k,hk,rfl⟩
 . simp
 . simp
 . simp[Qv]
 . simp
 . simp only[Qb];rw[AL Z]
 simp only[Qb];rw[AL Z]
theorem Xc (h:p∈JAB B):p.1+p.2.length / 64<=6+4*pgs B/\(p.1=0\/p.1=1\/p.1=2\/p.1=4\/(6<=p.1/\p.1 % 2=0)):=by
 rw[Yi h];rcases(XW B p).1 h with rfl | rfl | rfl | rfl | ⟨k,hk,rfl⟩ | ⟨k,hk,rfl⟩
 . simp;omega
 . simp;omega
 . simp;omega
 . simp
 . simp only;rw[AL Z];omega
 simp only;rw[AL Z];omega
theorem JBU {q:Nat×List UInt8} (a:p∈JAB B) (b:q∈JAB B) (h:p.1=q.1):p=q:=by
 rcases(XW B p).1 a with rfl | rfl | rfl | rfl | ⟨k,hk,rfl⟩ | ⟨k,hk,rfl⟩ <;> rcases(XW B q).1 b with rfl | rfl | rfl | rfl | ⟨j,hj,rfl⟩ | ⟨j,hj,rfl⟩ <;> simp only at h <;> first | rfl | (exfalso;omega) | (rw[show k=j from Z])
theorem Xu (e:n=198+4*pgs B) (b:p∈JAB B) (c:VBW p x):seg 64 (ZBe n B).now x=seg 64 p.2 (x-p.1):=by
 show seg 64 (Vc (PDisk.new n) (JAB B)).now x=_;refine QAo c _ _ (by simp[PDisk.new]) (fun q a=>by have:=(Xc a).1;show _<=n;omega) b (fun q a d=>JBU a b ?_);have f:=(Xc a).2;have g:=(Xc b).2;unfold VBW at c d;rw[Yi b] at c;rw[Yi a] at d
 split at c <;> split at d <;> omega
theorem YBp (c:n=198+4*pgs B) (a:∀ p∈JAB B,¬ VBW p x) (d:x<n):seg 64 (ZBe n B).now x=List.replicate 64 0:=by
 show seg 64 (Vc (PDisk.new n) (JAB B)).now x=_;rw[(Ym _ (PDisk.new n) (by simp[PDisk.new]) (fun q b=>by have:=(Xc b).1;show _<=n;omega)).2.2 x a];show ((List.replicate (n*64) (0:UInt8)).drop (x*64)).take 64=_;rw[CZ,Cu]
 congr 1
 omega
theorem QBN (bs:List UInt8) (h:bs.length=128):seg 64 bs 0++seg 64 bs 1=bs:=by
 unfold seg;rw[Cg,DD,Dm,AH (l:=bs.drop 64) (by simp;omega),Bp]
structure Fmt (B:Nat) (D:PDisk):Prop where
 n:D.n=198+4*pgs B
 len:D.now.length=D.n*64
 held:D.held=[]
 sup0:seg 64 D.now 0=List.replicate 64 0
 sup1:seg 64 D.now 1=VAP B 1 1
 reg0:seg 64 D.now 2++seg 64 D.now 3=QAE B
 reg1:seg 64 D.now 4++seg 64 D.now 5=List.replicate 128 0
 base:∀ k,k<pgs B->seg 64 D.now (6+2*k)=JY (List.replicate (min (B-15*k) 15) 0)
 over:∀ k,k<pgs B->seg 64 D.now (6+2*(k+pgs B))=JY (List.replicate (min (B-15*k) 15) (-1))
 log:∀ x,6+4*pgs B<=x->x<198+4*pgs B->seg 64 D.now x=List.replicate 64 0
theorem Qq (bs:List UInt8) (h:bs.length=64):seg 64 bs 0=bs:=by
 unfold seg;rw[Cg,DD,AH Z]
theorem KBc (B:Nat):Fmt B (ZBe (198+4*pgs B) B):=by
 obtain⟨n,a⟩:=ex (198+4*pgs B);rw[<- a];have l:=Ym (JAB B) (PDisk.new n) (by simp[PDisk.new]) (fun q v=>by have:=(Xc v).1;show _<=n;omega);have r:((0,List.replicate 64 0):Nat×List UInt8)∈JAB B:=(XW B _).2 (.inl rfl);have s:((1,VAP B 1 1):Nat×List UInt8)∈JAB B:=(XW B _).2 (.inr (.inl rfl));have f:((2,QAE B):Nat×List UInt8)∈JAB B:=(XW B _).2 (.inr (.inr (.inl rfl)));have g:((4,List.replicate 128 0):Nat×List UInt8)∈JAB B:=(XW B _).2 (.inr (.inr (.inr (.inl rfl))));have i:∀ {p:Nat×List UInt8} {x:Nat},p∈JAB B->(p.1=2\/p.1=4)->p.1<=x->x<p.1+2->VBW p x:=fun b h t u=>⟨t,by rw[Yi b,AP h];exact u⟩;have j:∀ {p:Nat×List UInt8},p∈JAB B->¬ (p.1=2\/p.1=4)->VBW p p.1:=fun b h=>⟨AG _,by rw[Yi b,AL h];exact Nat.lt_succ_self _⟩;refine⟨l.1.trans a,by show (Vc (PDisk.new n) (JAB B)).now.length=(Vc (PDisk.new n) (JAB B)).n*64;rw[l.1];exact l.2.1,rfl,?_,?_,?_,?_,fun k o=>?_,fun k o=>?_,fun x t u=>?_⟩
 . exact(Xu a r (j r sq)).trans (Qq _ sq)
 . exact(Xu a s (j s sq)).trans (Qq _ sq)
 . have c:=Xu a f (i f (.inl rfl) (AG 2) (by show 2<4;omega))
   have d:=Xu a f (i f (.inl rfl) (show 2<=3 from Z) (by show 3<4;omega));simp only at c d;rw[c,d];exact QBN _ (Qv B)
 . have c:=Xu a g (i g (.inr rfl) (AG 4) (by show 4<6;omega))
   have d:=Xu a g (i g (.inr rfl) (show 4<=5 from Z) (by show 5<6;omega));simp only at c d;rw[c,d];exact QBN _ sq
 . have m:((6+2*k,JY (List.replicate (min (B-15*k) 15) 0)):Nat×List UInt8)∈JAB B:=(XW B _).2 (.inr (.inr (.inr (.inr (.inl ⟨k,o,rfl⟩)))))
   have e:=Xu a m (j m (by simp only;omega));simp only[CS] at e;exact e.trans (Qq _ (Qb B k 0))
 . have m:((6+2*(k+pgs B),JY (List.replicate (min (B-15*k) 15) (-1))):Nat×List UInt8)∈JAB B:=(XW B _).2 (.inr (.inr (.inr (.inr (.inr ⟨k,o,rfl⟩)))))
   have e:=Xu a m (j m (by simp only;omega));simp only[CS] at e;exact e.trans (Qq _ (Qb B k (-1)))
 exact YBp a (fun p b w=>by have:=(Xc b).1;unfold VBW at w;omega) Z
theorem VBL (hn:2<=D.n) (V:D.off=false) (X:∀ k,k<2->D.faults[k]? = some false) (h:DiskAt w base d F D) :
 Calls prog 283 #[pq d] w fun e w'=>∃ a b f g,e=.returned (.tuple #[.agg #[.slice a 64 b,.slice f 64 g],zz]) /\
  w'.ownsRow w.heap.size 5 1 (.slice a 64 b) 64 (bys (seg 64 D.now 0))/\w'.ownsRow w.heap.size 5 1 (.slice f 64 g) 64 (bys (seg 64 D.now 1))/\kz w w':=by
 have N:=fun(k:Nat) (O:k<2) W (Y:kz w W)=>Zf W base d F D (h.kO Y) V k Z (X k O);go_enter func283,ntmps283;go_wp2_with fail;have P:=Blk.new w 334 #[zn,zn];have H:kz w (w.alloc (.cells #[zn,zn] 334)):=kq.alloc _;generalize w.alloc (.cells #[zn,zn] 334)=wA at *;go_loopw [3,4,5] (fun _ _ i wr=>∃ (k:Nat) (s r:Value),k<=2/\i=.int .i64 (k:Nat)/\Blk wr w.heap.size 334 #[s,r]/\(0<k->∃ A c,s=.slice A 64 c/\wr.ownsRow w.heap.size 5 1 s 64 (bys (seg 64 D.now 0)))/\(1<k->∃ A c,r=.slice A 64 c/\wr.ownsRow w.heap.size 5 1 r 64 (bys (seg 64 D.now 1)))/\kz w wr) (fun _ _ i _=>2-(intOf i).toNat)
 case atStart=>exact⟨0,_,_,Z,rfl,P,Z,Z,H⟩
 clear P H;obtain⟨k,s,r,O,rfl,m,J,Q,t⟩:=hrel;have K:cl wr w.heap.size s:=uq (m.cell 0);have L:cl wr (aq w.heap.size 1) r:=uq (m.cell 1)
 have B:∀ {q:Value} {n:Nat} {ys:List Value} {W:World},Blk W w.heap.size 334 #[s,r]->W.ownsRow w.heap.size 5 1 q n ys->∀ x,q.ownBlock=some x->x∉[w.heap.size]:=fun a0 hq x hx R=>by
  simp at R;subst R;exact own_blk_ne hq a0 (by decide) hx
 by_cases H:k=0
 . subst H
   have C:=N 0 Z wr t
   go_wp2_with (
    (refine C.mono ?_)
    clear C K L;rintro e y ⟨u,rfl,E,z⟩;obtain⟨o,p,rfl,_⟩:=ZB E;have j:=m.kO z;have K:cl y w.heap.size s:=uq (j.cell 0);have f0:=j.frozen 0)
   have M:=j.set 0 (.slice o 64 p);have l:Keep [w.heap.size] y (y.setCell w.heap.size (.slice o 64 p)):=kq.sc w.heap.size 0;have G:=ZC E t.size;go_roundw;case rel=>exact⟨1,.slice o 64 p,r,Z,rfl,uq M,fun _=>⟨o,p,rfl,XB G l (B j G)⟩,Z,(t.tO z).trans l iq⟩
   case measure=>simp[intOf]
 by_cases a1:k=1
 . subst a1
   obtain⟨a,b,rfl,I⟩:=J Z;have C:=N 1 Z wr t
   go_wp2_with (
    (refine C.mono ?_)
    clear C K L;rintro e y ⟨u,rfl,E,z⟩;obtain⟨o,p,rfl,_⟩:=ZB E;have j:=m.kO z;have L:cl y (aq w.heap.size 1) r:=uq (j.cell 1);have f1:=j.frozen 1)
   have M:=j.set 1 (.slice o 64 p);have l:Keep [w.heap.size] y (y.setCell (aq w.heap.size 1) (.slice o 64 p)):=kq.sc w.heap.size 1;have G:=ZC E t.size;have S:=QB I z;go_roundw;case rel=>exact⟨2,.slice a 64 b,.slice o 64 p,Z,rfl,uq M,fun _=>⟨a,b,rfl,XB S l (B j S)⟩,fun _=>⟨o,p,rfl,XB G l (B j G)⟩,(t.tO z).trans l iq⟩
   case measure=>simp[intOf]
 obtain rfl:k=2:=Z;obtain⟨a,b,rfl,I⟩:=J Z;obtain⟨f,g,rfl,T⟩:=Q Z;have f0:=m.frozen 0;have f1:=m.frozen 1;clear J Q;go_wp2_with fail;have U:=(m.set 0 (.slice a 64 b)).set 1 (.slice f 64 g);have g0:((wr.setCell w.heap.size (.slice a 64 b)).setCell (aq w.heap.size 1) (.slice f 64 g)).cell? w.heap.size=some (.slice a 64 b):=uq (U.cell 0);have g1:((wr.setCell w.heap.size (.slice a 64 b)).setCell (aq w.heap.size 1) (.slice f 64 g)).cell? (aq w.heap.size 1)=some (.slice f 64 g):=uq (U.cell 1);have l:Keep [w.heap.size] wr ((wr.setCell w.heap.size (.slice a 64 b)).setCell (aq w.heap.size 1) (.slice f 64 g)):=((Keep.refl [w.heap.size] wr).sc w.heap.size 0).sc w.heap.size 1;refine Af (v:=.tuple #[.agg #[.slice a 64 b,.slice f 64 g],zz]) (by simp[results,results283,go_sem,g0,g1]) rfl ⟨a,b,f,g,rfl,XB I l (B m I),XB T l (B m T),t.trans l iq⟩
theorem QBC (f:Nat) (o:Blk w f 406 #[.pointer (some d),.pointer none,.int .i64 0,.int .i64 0,.int .i64 0,.int .i64 0,.int .i64 0,.int .i64 0,.int .i64 0,.int .i64 0,.int .i64 0,.int .i64 0,.int .i64 0,.int .i64 0,.int .i64 0,.int .i64 0,.int .i64 0,.int .i64 0,.slice none 0 0,.slice none 0 0,.slice none 0 0,.int .i64 0,.pointer none,.pointer none,.int .i64 0,.int .i64 0,.int .i64 0,.int .i64 0,.int .i64 0,.int .i64 0,.int .i64 0,.int .i64 0,.int .i64 0,.int .i64 0,.int .i64 0,.int .i64 0,.int .i64 0,.int .i64 0,.int .i64 0]) (h:DiskAt w base d F D) (ad:D.off=false) (Q:∀ k,k<D.n->D.faults[k]? = some false) (r:Fmt B D) (R:1<=B) (S:B<=64) (ae:f∉F) :
 Calls prog 359 #[.pointer (some f)] w fun e w'=>e=.returned (.int .i64 0)/\∃ g,Blk w' f 406 #[.pointer (some d),.pointer (some (aq g 0)),.int .i64 B,.int .i64 8,.int .i64 24,.int .i64 1,.int .i64 1,.int .i64 0,.int .i64 0,.int .i64 0,.int .i64 0,.int .i64 0,.int .i64 0,.int .i64 0,.int .i64 0,.int .i64 0,.int .i64 0,.int .i64 0,.slice none 0 0,.slice none 0 0,.slice none 0 0,.int .i64 0,.pointer none,.pointer none,.int .i64 0,.int .i64 0,.int .i64 0,.int .i64 0,.int .i64 0,.int .i64 0,.int .i64 0,.int .i64 0,.int .i64 0,.int .i64 0,.int .i64 0,.int .i64 0,.int .i64 0,.int .i64 0,.int .i64 0]/\GeomAt w' g B/\w.heap.size<=g/\Keep [f] w w':=by
 have T:=r.n;have u:=VBL Z ad (fun k U=>Q k Z) h;rw[r.sup0,r.sup1] at u;have V:=fun A A' c af W ha o=>XBO B 1 1 R S Z Z (A:=A) (A':=A') c af (w:=W) ha o;have X:=fun W=>VAX W B R S;have v:=fun W (U:Keep [f] w W)=>QAA W base d F D (h.keep U (fun x l m=>by simp at m;subst m;exact ae l));have ag:cl w f (pq d):=uq (o.cell 0);clear r Q;rw[T] at v;obtain⟨P,Y⟩:=ex (pgs B);rw[<- Y] at v T;go_enter func359,ntmps359
 go_wp2_with (
  refine u.mono ?_;clear u ag;rintro e w2 ⟨a0,a1,a2,a3,rfl,a4,a5,y⟩;have a:=o.kO y)
 have n:=(Keep.refl [] w2).alloc (.cells #[.slice a0 64 a1,.slice a2 64 a3] 334);have a6:=V a0 a2 a1 a3 _ (Rd.of_own (QB a4 n)) (Rd.of_own (QB a5 n));clear V;replace a:=a.kO n;have s:=y.tO n;clear n a4 a5 y
 go_wp2_with (
  refine a6.mono ?_;clear a6;rintro e b ⟨rfl,a7⟩;replace a:=a.kO a7;replace s:=s.tO a7;have z:cl b (aq f 2) zz:=uq (a.cell 2);have C:cl b (aq f 3) zz:=uq (a.cell 3);have E:cl b (aq f 4) zz:=uq (a.cell 4);have c5:cl b (aq f 5) zz:=uq (a.cell 5);have c6:cl b (aq f 6) zz:=uq (a.cell 6);have f2:=a.frozen 2;have f3:=a.frozen 3;have f4:=a.frozen 4;have f5:=a.frozen 5;have f6:=a.frozen 6;have G:=a.lt)
 have i:=(((((a.set 2 (.int .i64 B)).set 3 (.int .i64 8)).set 4 (.int .i64 24)).set 5 (.int .i64 1)).set 6 (.int .i64 1));have a8:=((((((Keep.refl [f] b).setCell (p:=⟨f,2,none⟩) (.inl sq) (.int .i64 B)).setCell (p:=⟨f,3,none⟩) (.inl sq) (.int .i64 8)).setCell (p:=⟨f,4,none⟩) (.inl sq) (.int .i64 24)).setCell (p:=⟨f,5,none⟩) (.inl sq) (.int .i64 1)).setCell (p:=⟨f,6,none⟩) (.inl sq) (.int .i64 1));simp only[PU] at i;have H:=s.zero.trans a8 (fun x l=>.inl l);clear z C E c5 c6 f2 f3 f4 f5 f6 G a s a8;generalize (((((b.setCell (aq f 2) (.int .i64 B)).setCell (aq f 3) (.int .i64 8)).setCell (aq f 4) (.int .i64 24)).setCell (aq f 5) (.int .i64 1)).setCell (aq f 6) (.int .i64 1))=w4 at *;have z:cl w4 (aq f 2) (ii B):=uq (i.cell 2);have C:cl w4 (aq f 3) (ii 8):=uq (i.cell 3);have E:cl w4 (aq f 4) (ii 24):=uq (i.cell 4)
 go_wp2_with (
  refine(X _).mono ?_;clear X z C E;rintro e t ⟨g,rfl,I,a9,J⟩;have j:=i.kO J;have q1:cl t (aq f 1) (.pointer none):=uq (j.cell 1);have f1:=j.frozen 1;have G:=j.lt)
 have aa:=j.set 1 (.pointer (some (aq g 0)));simp only[PU] at aa;have L:Keep [f] t (t.setCell (aq f 1) (.pointer (some (aq g 0)))):=kq.sc f 1;have ah:g∉[f]:=fun m=>by simp at m;subst m;exact Blk.ne_ I.blk j (by decide) rfl
 have ai:=I.keep L ah;have aj:=(H.tO J).trans L (fun x l=>.inl l);have ak:w.heap.size<=g:=AA H.size a9;clear q1 f1 G j i H I L J a9;generalize t.setCell (aq f 1) (.pointer (some (aq g 0)))=w6 at *;have M:=aa.drew;have ab:=aj.drew;have ac:=ai.kO (Keep.refl [] w6).drew;have d0:w6.drew.cell? f=some (.pointer (some d)):=uq (M.cell 0);have d1:w6.drew.cell? (aq f 1)=some (.pointer (some (aq g 0))):=uq (M.cell 1);refine ZT (fun W=>cl W f (pq d)/\cl W (aq f 1) (pq g)) 9 [[0,1,2,3,5,6,7,8],[4]] ⟨d0,d1⟩ ?_;simp only[PI];iterate 8 refine wG ?_
 refine YB rq (fun K al=>?_);go_wp2_with (refine(v _ ab).mono ?_;rintro e w7 ⟨rfl,rfl⟩);refine al _ _ (⟨d0,d1⟩) ?_
 try simp only[Act.put,PU]
 refine KB ?_;have N:=SectorsG_is _ g B ac;rw[<- Y] at N;go_wp2_with (refine N.mono ?_;clear N;rintro e w8 ⟨rfl,O⟩);go_ret;exact⟨rfl,g,M.kO O,ac.kO O,ak,ab.tO O⟩
theorem TableAt.rebase {us:List (Nat×Nat)} {lv:List Nat} (h:TableAt w b t g F us lv) (a:b'<=b):TableAt w b' t g F us lv:=by
 obtain⟨L,V,h⟩:=h;exact⟨L,V,h.blk,ZC h.l a,ZC h.live a,h.foot,AA a h.base,h.ulen,h.uok,h.lok⟩
theorem WriterAt.rebase {p:Nat} {W:PW} (h:WriterAt w b p d g t F W) (a:b'<=b):WriterAt w b' p d g t F W:=by
 obtain⟨I,B,ls,h⟩:=h;exact⟨I,B,ls,h.blk,ZC h.its a,ZC h.bls a,fun q c=>ZC (h.dat q c) a,h.snd,h.foot,AA a h.base⟩
theorem PagedAt.rebase {p:Nat} {l:List Int} {ds:List Bool} (h:PagedAt w b p F l ds) (a:b'<=b):PagedAt w b' p F l ds:=by
 obtain⟨L,U,h⟩:=h;exact⟨L,U,h.blk,ZC h.rl a,ZC h.rd a,h.foot,AA a h.base,h.pos,h.few,h.pages⟩
theorem ImageAt.rebase {m:Nat} {I:PImage} (h:ImageAt w b m F I) (a:b'<=b):ImageAt w b' m F I:=by
 obtain⟨c,d,e,f,h⟩:=h;exact⟨c,d,e,f,h.blk,h.b.rebase a,h.o.rebase a,h.apart,h.m1,h.m2,h.foot,AA a h.base,h.ok⟩
def PS.fresh (B:Nat) (D:PDisk):PS:=
 ⟨D,(1,0) :: List.replicate 7 (0,0),List.replicate 8 0,⟨⟨0,0,1,0,1⟩,[],[]⟩,⟨List.replicate B 0,List.replicate (pgs B) false,List.replicate B (-1),List.replicate (pgs B) false⟩,⟨1,1,0,0,0,1,1⟩,0,List.replicate (pgs B) 0,List.replicate (pgs B) 0⟩