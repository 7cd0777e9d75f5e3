/- Lemmas of the proof, with their conditions. -/
import Derived.Test.YtfedaknhecbehaaGreatM39
import Derived.Test.YtfedaknhecbehaaGreatM30
import Derived.Test.YtfedaknhecbehaaGreatM38
namespace Go.Proofs.YtfedaknhecbehaaGreat
open Tryz Go.RowKit Go.Shelf
variable {F:List Nat} {b b' j:Nat} {D:PDisk} {R':RS}
set_option linter.all false
set_option maxHeartbeats 8000000
set_option maxRecDepth 40000
structure PPart where
 a:Nat
 v:Value
 bs:List UInt8
def ptc (q:PPart):List Value:=[.int .i64 q.a,q.v]
theorem XAD (q:PPart):(ptc q).length=2:=rfl
theorem QAs (n k:Nat) (a:k<n):seg 64 (List.replicate (n*64) (0:UInt8)) k=List.replicate 64 0:=by
 unfold seg;rw[CV,Cw]
 congr 1
 have:(k+1)*64<=n*64:=BJ _ a;omega
theorem ZBG {w:World} {base d:Nat} (n:Nat) (hn:2<=n) (h:DiskAt w base d F (PDisk.new n)) :
 Calls prog 283 #[pq d] w fun e w'=>∃ a b f g,e=.returned (.tuple #[.agg #[.slice a 64 b,.slice f 64 g],zz]) /\
  w'.ownsRow w.heap.size 5 1 (.slice a 64 b) 64 (bys zeros64)/\w'.ownsRow w.heap.size 5 1 (.slice f 64 g) 64 (bys zeros64)/\kz w w':=by
 have M:=fun(k:Nat) (N:k<2) W (V:kz w W)=>XAG W base d F (PDisk.new n) (h.kO V) rfl k (by show k<n;omega) (by show (List.replicate n false)[k]? = _;rw[Au,AJ Z]);have O:∀ k,k<2->seg 64 (PDisk.new n).now k=zeros64:=fun k N=>QAs n k Z;go_enter func283,ntmps283;go_wp2_with fail;have P:=Blk.new w 334 #[zn,zn];have G:kz w (w.alloc (.cells #[zn,zn] 334)):=kq.alloc _;generalize w.alloc (.cells #[zn,zn] 334)=wA at *;go_loopw [3,4,5] (fun _ _ i wr=>∃ (k:Nat) (s r:Value),k<=2/\i=.int .i64 (k:Nat)/\Blk wr w.heap.size 334 #[s,r]/\(0<k->∃ A c,s=.slice A 64 c/\wr.ownsRow w.heap.size 5 1 s 64 (bys zeros64))/\(1<k->∃ A c,r=.slice A 64 c/\wr.ownsRow w.heap.size 5 1 r 64 (bys zeros64))/\kz w wr) (fun _ _ i _=>2-(intOf i).toNat)
 case atStart=>exact⟨0,_,_,Z,rfl,P,Z,Z,G⟩
 clear P G;obtain⟨k,s,r,N,rfl,m,I,Q,t⟩:=hrel;have J:cl wr w.heap.size s:=uq (m.cell 0)
 have K:cl wr (aq w.heap.size 1) r:=uq (m.cell 1)
 have C:∀ {q:Value} {n:Nat} {ys:List Value} {W:World},Blk W w.heap.size 334 #[s,r]->W.ownsRow w.heap.size 5 1 q n ys->∀ x,q.ownBlock=some x->x∉[w.heap.size]:=fun X Y x hx R=>by
  simp at R;subst R;exact own_blk_ne Y X (by decide) hx
 by_cases G:k=0
 . subst G
   have y:=M 0 Z wr t;rw[O 0 Z] at y
   go_wp2_with (
    (refine y.mono ?_)
    clear y J K;rintro e z ⟨u,rfl,D,B⟩;obtain⟨o,p,rfl,_⟩:=XB D;have j:=m.kO B;have J:cl z w.heap.size s:=uq (j.cell 0)
    have f0:=j.frozen 0)
   have L:=j.set 0 (.slice o 64 p);have l:Keep [w.heap.size] z (z.setCell w.heap.size (.slice o 64 p)):=kq.sc w.heap.size 0;have E:=VC D t.size;go_roundw;case rel=>exact⟨1,.slice o 64 p,r,Z,rfl,uq L,fun _=>⟨o,p,rfl,KA E l (C j E)⟩,Z,(t.tO B).trans l iq⟩
   case measure=>simp[intOf]
 by_cases a0:k=1
 . subst a0
   obtain⟨a,b,rfl,H⟩:=I Z;have y:=M 1 Z wr t;rw[O 1 Z] at y
   go_wp2_with (
    (refine y.mono ?_)
    clear y J K;rintro e z ⟨u,rfl,D,B⟩;obtain⟨o,p,rfl,_⟩:=XB D;have j:=m.kO B;have K:cl z (aq w.heap.size 1) r:=uq (j.cell 1)
    have f1:=j.frozen 1)
   have L:=j.set 1 (.slice o 64 p);have l:Keep [w.heap.size] z (z.setCell (aq w.heap.size 1) (.slice o 64 p)):=kq.sc w.heap.size 1;have E:=VC D t.size;have S:=QB H B;go_roundw;case rel=>exact⟨2,.slice a 64 b,.slice o 64 p,Z,rfl,uq L,fun _=>⟨a,b,rfl,KA S l (C j S)⟩,fun _=>⟨o,p,rfl,KA E l (C j E)⟩,(t.tO B).trans l iq⟩
   case measure=>simp[intOf]
 obtain rfl:k=2:=Z
 obtain⟨a,b,rfl,H⟩:=I Z;obtain⟨f,g,rfl,T⟩:=Q Z;have f0:=m.frozen 0;have f1:=m.frozen 1;clear I Q;go_wp2_with fail;have U:=(m.set 0 (.slice a 64 b)).set 1 (.slice f 64 g);have g0:((wr.setCell w.heap.size (.slice a 64 b)).setCell (aq w.heap.size 1) (.slice f 64 g)).cell? w.heap.size=some (.slice a 64 b):=uq (U.cell 0)
 have g1:((wr.setCell w.heap.size (.slice a 64 b)).setCell (aq w.heap.size 1) (.slice f 64 g)).cell? (aq w.heap.size 1)=some (.slice f 64 g):=uq (U.cell 1)
 have l:Keep [w.heap.size] wr ((wr.setCell w.heap.size (.slice a 64 b)).setCell (aq w.heap.size 1) (.slice f 64 g)):=((Keep.refl [w.heap.size] wr).sc w.heap.size 0).sc w.heap.size 1;refine Ac (v:=.tuple #[.agg #[.slice a 64 b,.slice f 64 g],zz]) (by simp[results,results283,go_sem,g0,g1]) rfl ⟨a,b,f,g,rfl,KA H l (C m H),KA T l (C m T),t.trans l iq⟩
theorem JAZ {w:World} {g B:Nat} (j:GeomAt w g B) (f:Nat) :
 Calls prog 181 #[pq g,f] w fun e w'=>∃ n o D E,e=.returned (.agg ((⟨1,1,1,0,0,0,⟨0,0,1,0,f⟩⟩:PReg).cs (.slice n (pgs B) o) (.slice n (pgs B) o) (.slice (some (aq D 0)) 8 E)).toArray) /\
  w'.ownsRow w.heap.size 3 1 (.slice n (pgs B) o) (pgs B) (XP (List.replicate (pgs B) 0))/\w'.ownsRow w.heap.size 166 2 (.slice (some (aq D 0)) 8 E) 8 (((1,0) :: List.replicate 7 (0,0)).flatMap Vw)/\kz w w':=by
 have a8:=ZD j.pos j.few;have L:=fun W (q:kz w W)=>PagesG_is W g B (j.kO q);have M:=fun W (q:kz w W)=>ConfigG_is W g B (j.kO q);have a9:=fun W=>KE (P:=prog) underlying28 1 rfl isAgg3 #[ii B,ii 8,ii 24] rfl W;generalize pgs B=P at *;obtain⟨r,k⟩:=ex (w.alloc (.cells #[zz,zz,zz,zz,zz,zz,zz,zz,zz,zz,zz,zn,zn,zn] 240));have t:kz w r:=by rw[k];exact kq.alloc _
 have N:Blk r w.heap.size 240 #[zz,zz,zz,zz,zz,zz,zz,zz,zz,zz,zz,zn,zn,zn]:=by rw[k];exact Blk.new _ _ _
 have F:=L r t;have O:madeCells (Value.agg #[zz,zz]).cells (8*2)=Array.replicate 16 (.int .i64 0):=XT (.int .i64 0) 2 16 Z;go_enter func181,ntmps181;go_wp2_with fail;rw[<- k];clear k
 go_wp2_with (first
  | (go_at_call 245;refine F.mono ?_;clear F;rintro e w1 ⟨rfl,u⟩)
  | (at_make;refine elemIntsN.wp_make rfl _ _ rfl .i64 .i64 P rfl rfl Z Z ?_;intro Q R S T U G;obtain rfl:R=w1.heap.size:=S;clear T;have l:=t.tO (u.tO G))
  | (go_at_call 86;refine(M _ l).mono ?_;rintro e b ⟨rfl,h⟩)
  | (at_make;refine elemUse.wp_make rfl _ _ rfl .i64 .i64 8 rfl rfl Z Z ?_;intro m V X Y c y;obtain rfl:V=b.heap.size:=X;clear Y;rw[O] at c;have aa:=c.lt;have f4:=c.frozen 0;have c4:cl m b.heap.size zz:=uq (c.cell 0)
     have a:=((((N.kO u).kO G).kO h).kO y);have H:w.heap.size≠b.heap.size:=fun e=>Blk.ne_ a c (by decide) e;obtain⟨r0,r1,r2,r3,r4,r5,r6,r7,r8,r9,ab,ac,ad,ae⟩:=YF a;have z0:=a.frozen 0;have z1:=a.frozen 1;have z2:=a.frozen 2;have z3:=a.frozen 3;have z4:=a.frozen 4;have z5:=a.frozen 5;have z6:=a.frozen 6;have z7:=a.frozen 7;have z8:=a.frozen 8;have z9:=a.frozen 9;have af:=a.frozen 10;have ag:=a.frozen 11;have ah:=a.frozen 12;have ai:=a.frozen 13))
 have A:Keep [b.heap.size] m (m.setCell b.heap.size (.int .i64 1)):=kq.setCell (.inl sq) _;have I:=a.keep A (uq H);have a0:=c.set 0 (.int .i64 1);have a1:Q.ownsRow w.heap.size 3 1 (.slice (some w1.heap.size) P P) P (XP (List.replicate P 0)):=JN (e:=3) (s:=1) (z:=.int .i64 0) U Z (AB t.size u.size) Z (by simp[XP,i64]) rfl;have J:=QB a1 (h.tO y);have K:=KA J A (fun x d i=>by simp at i;subst i;exact own_blk_ne J c (by decide) d);generalize (m.setCell b.heap.size (.int .i64 1))=w5 at *;have hz:=((((((((((((((I.set 0 (.int .i64 1)).set 1 (.int .i64 1)).set 2 (.int .i64 1)).set 3 (.int .i64 0)).set 4 (.int .i64 0)).set 5 (.int .i64 0)).set 6 (.int .i64 0)).set 7 (.int .i64 0)).set 8 (.int .i64 1)).set 9 (.int .i64 0)).set 10 (.int .i64 f)).set 11 (.slice (some w1.heap.size) P P)).set 12 (.slice (some w1.heap.size) P P)).set 13 (.slice (some b.heap.size) 8 8));have C:=(((((((((((((((Keep.refl [w.heap.size] w5).setCell (p:=⟨w.heap.size,0,none⟩) (.inl sq) (.int .i64 1)).setCell (p:=⟨w.heap.size,1,none⟩) (.inl sq) (.int .i64 1)).setCell (p:=⟨w.heap.size,2,none⟩) (.inl sq) (.int .i64 1)).setCell (p:=⟨w.heap.size,3,none⟩) (.inl sq) (.int .i64 0)).setCell (p:=⟨w.heap.size,4,none⟩) (.inl sq) (.int .i64 0)).setCell (p:=⟨w.heap.size,5,none⟩) (.inl sq) (.int .i64 0)).setCell (p:=⟨w.heap.size,6,none⟩) (.inl sq) (.int .i64 0)).setCell (p:=⟨w.heap.size,7,none⟩) (.inl sq) (.int .i64 0)).setCell (p:=⟨w.heap.size,8,none⟩) (.inl sq) (.int .i64 1)).setCell (p:=⟨w.heap.size,9,none⟩) (.inl sq) (.int .i64 0)).setCell (p:=⟨w.heap.size,10,none⟩) (.inl sq) (.int .i64 f)).setCell (p:=⟨w.heap.size,11,none⟩) (.inl sq) (.slice (some w1.heap.size) P P)).setCell (p:=⟨w.heap.size,12,none⟩) (.inl sq) (.slice (some w1.heap.size) P P)).setCell (p:=⟨w.heap.size,13,none⟩) (.inl sq) (.slice (some b.heap.size) 8 8));obtain⟨y0,y1,y2,y3,y4,y5,y6,y7,y8,y9,a2,a3,a4,a5⟩:=YF (uq hz);have a6:kz w w5:=((l.tO h).tO y).trans A (fun x d=>.inr (by simp at d;subst d;exact AB l.size h.size));have a7:=a0.keep C (by simpa using fun e=>H e.symm)
 refine Ac (v:=.agg #[ii 1,ii 1,ii 1,zz,zz,zz,zz,zz,ii 1,zz,ii f,.slice (some w1.heap.size) P P,.slice (some w1.heap.size) P P,.slice (some b.heap.size) 8 8]) (by simp[results,results181,go_sem,y0,y1,y2,y3,y4,y5,y6,y7,y8,y9,a2,a3,a4,a5]) rfl
  ⟨some ⟨w1.heap.size,0,none⟩,P,b.heap.size,8,rfl,KA K C (fun x d i=>by simp at i;subst i;exact own_blk_ne K I (by decide) d),?_,a6.trans C iq⟩
 exact⟨by simp[Vw],.inr ⟨b.heap.size,8,_,rfl,AB l.size h.size,a7,AG _,by simp[maxLen],sq,by simp[Vw]⟩⟩
theorem segsOk_first:VW ((1,0) :: List.replicate 7 (0,0)) 0:=by
 refine⟨rfl,by decide,fun k h=>?_⟩;have a:k<8:=h;have:k=0\/k=1\/k=2\/k=3\/k=4\/k=5\/k=6\/k=7:=Z
 rcases this with rfl | rfl | rfl | rfl | rfl | rfl | rfl | rfl <;> simp
theorem YAY (w:World) (base:Nat) (b:List PPart) (h:∀ q∈b,∃ n,w.ownsRow base 5 1 q.v n (bys q.bs)):∀ u∈b.flatMap ptc,u.oneCell'=true:=by
 intro u a;obtain⟨q,d,a⟩:=Bs.1 a;obtain⟨n,f⟩:=h q d;obtain⟨A,c,e,_⟩:=XB f;simp only[ptc,AL,DA,DZ] at a;rcases a with rfl | rfl
 . rfl
 rw[e];rfl
def PtOk (w:World) (base n:Nat) (q:PPart):Prop:=∃ k,1<=k/\k<=2/\q.bs.length=64*k/\q.a+k<=n/\w.ownsRow base 5 1 q.v (64*k) (bys q.bs)
theorem PtOk.map {w w':World} {base n:Nat} {q:PPart} (h:PtOk w base n q) (a:∀ {v:Value} {m:Nat} {ys:List Value},w.ownsRow base 5 1 v m ys->w'.ownsRow base 5 1 v m ys):PtOk w' base n q:=by
 obtain⟨k,b,c,d,e,f⟩:=h;exact⟨k,b,c,d,e,a f⟩
theorem VBn {R G:Prop} (f:R->G) (r:R):G:=f r
def KBg (q:PPart):Nat×List UInt8:=(q.a,q.bs)
def Qj (off:Nat) (x:Int) (B k:Nat):List (Nat×List UInt8):=(List.range k).map fun k=>(6+2*(k+off)+0,Yq (List.replicate (min (B-15*k) 15) x))
theorem Zv (a:Nat) (x:Int) (B k:Nat):Qj a x B (k+1)=Qj a x B k++[(6+2*(k+a)+0,Yq (List.replicate (min (B-15*k) 15) x))]:=by simp[Qj,Bq]
theorem YAZ {w:World} {g B:Nat} (E:GeomAt w g B) (S:Bool) :
 Calls prog 287 #[pq g,.bool S] w fun e w'=>∃ (v:Value) (a:List PPart),e=.returned v/\w'.ownsRow w.heap.size 345 2 v a.length (a.flatMap ptc)/\a.length=pgs B /\
  (∀ q∈a,q.bs.length=64/\q.a<6+4*pgs B/\w'.ownsRow w.heap.size 5 1 q.v 64 (bys q.bs))/\a.map KBg=(bif S then Qj (pgs B) (-1) B (pgs B) else Qj 0 0 B (pgs B))/\kz w w':=by
 have ah:=ZD E.pos E.few;have T:=PagesG_is w g B E;have a9:=fun W (F:kz w W)=>ConfigG_is W g B (E.kO F);have U:=fun(k:Nat) (F:k<pgs B) W (ac:kz w W)=>QAa W g B (E.kO ac) S k 0 Z F;have ai:=fun W=>KE (P:=prog) underlying28 0 rfl isAgg3 #[ii B,ii 8,ii 24] rfl W;have aj:=E.few;have aa:pgs B=(B+14) / 15:=rfl;have ab:=ZB aa;clear aa;generalize pgs B=P at *;cases S
 . simp only[Ap,CD,Bo] at U
   go_enter func287,ntmps287;go_wp2_with (go_at_call 245;refine T.mono ?_;clear T;rintro e w1 ⟨rfl,G⟩)
   go_loopw [4,6,7,8,9,13] (fun v _ _ _ _ i wr=>∃ (k:Nat) (a:List PPart),k<=P/\i=.int .i64 (k:Nat)/\wr.ownsRow w.heap.size 345 2 v k (a.flatMap ptc)/\Hid (a.length=k) /\
    (∀ q∈a,q.bs.length=64/\q.a<6+4*P/\wr.ownsRow w.heap.size 5 1 q.v 64 (bys q.bs))/\Hid (a.map KBg=Qj 0 0 B k)/\kz w wr) (fun _ _ _ _ _ i _=>P-(intOf i).toNat)
   case atStart=>exact⟨0,[],AP _,rfl,AZ _ _ _ _,rfl,sq,rfl,G⟩
   clear G;obtain⟨k,a,F,rfl,d,H,I,J,f⟩:=hrel;by_cases V:k<P
   . have ad:((k:Nat):Int)<(P:Nat):=Z
     have ae:15*k<B:=by have:=ZA ab;omega
     obtain⟨n,X,Y,a0,a1⟩:∃ n:Nat,min ((B:Int)-((k:Nat):Int)*15) 15=(n:Nat)/\0<n/\n<=15/\Hid (n=min (B-15*k) 15):=⟨min (B-k*15) 15,Z,Z,Z,ZB Z⟩;obtain⟨p,r,rfl,_⟩:=XB d;go_wp2_with (go_at_call 86;refine(a9 _ f).mono ?_;rintro e s ⟨rfl,a2⟩);clear X;have a3:kz s (s.alloc (.cells #[Value.int .i64 0] 3)):=kq.alloc _;have K:=Zp 1 (0) n Y Z (XS s (Value.int .i64 0) 3)
     go_wp2_with (first
      | (go_at_call 367
         refine K.mono ?_;clear K;rintro e w3 ⟨af,rfl,L,l⟩;obtain⟨a4,rc,rfl,_⟩:=XB L;replace l:=(a2.tO a3).tO l
         have M:=XAa (A:=a4) (n:=n) rc (List.replicate n (0)) (w:=w3) (by rw[show KW (List.replicate n (0))=List.replicate n (Value.int .i64 (0)) by simp[KW,i64]];exact Rd.of_own L) (fun z hz=>by rw[AX hz];omega) a0)
      | (go_at_call 221
         refine M.mono ?_;clear M;rintro e w4 ⟨u,rfl,t,h⟩;have N:(Yq (List.replicate n (0))).length=64:=Kf (by simp;omega);obtain⟨bs,y⟩:=ex (Yq (List.replicate n (0)));rw[<- y] at t N;have a5:=ZB y;clear y;obtain⟨C,D,rfl,_⟩:=XB t;have O:=h
         replace h:=l.tO h)
      | (go_at_call 224
         refine(U k V _ (f.tO h)).mono ?_;rintro e m ⟨rfl,c⟩;replace O:=c
         replace c:=h.tO c)
      | (at_builtin
         have a6:=Rd.of_blk (n:=2) (Blk.new m 345 #[Value.int .i64 ((6+2*(k+0)+0:Nat)),.slice C 64 D]) sq;refine elemPart.wp_app rfl (.tmp 31) (.tmp 38) rfl w.heap.size (.slice p k r) k (a.flatMap ptc) rfl (XE (QB d c) _) _ 1 1 _ rfl a6 (by simp[Value.oneCell']) Z Z (AB f.size (AB c.size sq)) ?_;rintro ag w7 a7 Q _ _))
     have o:kz m (m.alloc (.cells #[Value.int .i64 ((6+2*(k+0)+0:Nat)),.slice C 64 D] 345)):=kq.alloc _;have a8:∀ x∈(Value.slice p k r).ownBlock.toList,w.heap.size<=x:=fun x j=>(own_mem d j).1
     have R:∀ {q:Value} {n:Nat} {ys:List Value},m.ownsRow w.heap.size 5 1 q n ys->w7.ownsRow w.heap.size 5 1 q n ys:=fun b=>
      KA (QB b o) Q (fun x j hm=>own_ne (QB b o) (QB d (c.tO o)) (by decide) j (uq hm))
     go_roundw
     case rel=>
      refine⟨k+1,a++[⟨6+2*(k+0)+0,Value.slice C 64 D,bs⟩],Z,by go_num,?_,by show _=_;rw[AE,ZA H];rfl,fun q b=>?_,ZB (by rw[Bf,ZA J,Zv,<- ZA a1,<- ZA a5];rfl),(f.tO (c.tO o)).trans Q (fun x j=>.inr (a8 x j))⟩
      . rw[BM]
        exact a7
      rcases AD.1 b with b | b
      . obtain⟨q1,q2,q3⟩:=I q b
        exact⟨q1,q2,R (QB q3 c)⟩
      simp only[Ag] at b
      subst b;exact⟨N,by simp only;omega,R (QB (VC t (AB f.size l.size)) O)⟩
     case measure=>simp[intOf];omega
   obtain rfl:k=P:=Z
   obtain⟨p,r,rfl,_⟩:=XB d;go_wp2_with fail;go_ret;have e:=ZA H;exact⟨_,a,rfl,by rw[e];exact d,e,I,ZA J,f⟩
 simp only[Ap,CD,Bo] at U
 go_enter func287,ntmps287;go_wp2_with (go_at_call 245;refine T.mono ?_;clear T;rintro e w1 ⟨rfl,G⟩)
 go_loopw [4,6,7,8,9,13] (fun v _ _ _ _ i wr=>∃ (k:Nat) (a:List PPart),k<=P/\i=.int .i64 (k:Nat)/\wr.ownsRow w.heap.size 345 2 v k (a.flatMap ptc)/\Hid (a.length=k) /\
  (∀ q∈a,q.bs.length=64/\q.a<6+4*P/\wr.ownsRow w.heap.size 5 1 q.v 64 (bys q.bs))/\Hid (a.map KBg=Qj P (-1) B k)/\kz w wr) (fun _ _ _ _ _ i _=>P-(intOf i).toNat)
 case atStart=>exact⟨0,[],AP _,rfl,AZ _ _ _ _,rfl,sq,rfl,G⟩
 clear G;obtain⟨k,a,F,rfl,d,H,I,J,f⟩:=hrel;by_cases V:k<P
 . have ad:((k:Nat):Int)<(P:Nat):=Z
   have ae:15*k<B:=by have:=ZA ab;omega
   obtain⟨n,X,Y,a0,a1⟩:∃ n:Nat,min ((B:Int)-((k:Nat):Int)*15) 15=(n:Nat)/\0<n/\n<=15/\Hid (n=min (B-15*k) 15):=⟨min (B-k*15) 15,Z,Z,Z,ZB Z⟩;obtain⟨p,r,rfl,_⟩:=XB d;go_wp2_with (go_at_call 86;refine(a9 _ f).mono ?_;rintro e s ⟨rfl,a2⟩);clear X;have a3:kz s (s.alloc (.cells #[Value.int .i64 (-1)] 3)):=kq.alloc _;have K:=Zp 1 (-1) n Y Z (XS s (Value.int .i64 (-1)) 3)
   go_wp2_with (first
    | (go_at_call 367
       refine K.mono ?_;clear K;rintro e w3 ⟨af,rfl,L,l⟩;obtain⟨a4,rc,rfl,_⟩:=XB L;replace l:=(a2.tO a3).tO l
       have M:=XAa (A:=a4) (n:=n) rc (List.replicate n (-1)) (w:=w3) (by rw[show KW (List.replicate n (-1))=List.replicate n (Value.int .i64 (-1)) by simp[KW,i64]];exact Rd.of_own L) (fun z hz=>by rw[AX hz];omega) a0)
    | (go_at_call 221
       refine M.mono ?_;clear M;rintro e w4 ⟨u,rfl,t,h⟩;have N:(Yq (List.replicate n (-1))).length=64:=Kf (by simp;omega);obtain⟨bs,y⟩:=ex (Yq (List.replicate n (-1)));rw[<- y] at t N;have a5:=ZB y;clear y;obtain⟨C,D,rfl,_⟩:=XB t;have O:=h
       replace h:=l.tO h)
    | (go_at_call 224
       refine(U k V _ (f.tO h)).mono ?_;rintro e m ⟨rfl,c⟩;replace O:=c
       replace c:=h.tO c)
    | (at_builtin
       have a6:=Rd.of_blk (n:=2) (Blk.new m 345 #[Value.int .i64 ((6+2*(k+P)+0:Nat)),.slice C 64 D]) sq;refine elemPart.wp_app rfl (.tmp 31) (.tmp 38) rfl w.heap.size (.slice p k r) k (a.flatMap ptc) rfl (XE (QB d c) _) _ 1 1 _ rfl a6 (by simp[Value.oneCell']) Z Z (AB f.size (AB c.size sq)) ?_;rintro ag w7 a7 Q _ _))
   have o:kz m (m.alloc (.cells #[Value.int .i64 ((6+2*(k+P)+0:Nat)),.slice C 64 D] 345)):=kq.alloc _;have a8:∀ x∈(Value.slice p k r).ownBlock.toList,w.heap.size<=x:=fun x j=>(own_mem d j).1
   have R:∀ {q:Value} {n:Nat} {ys:List Value},m.ownsRow w.heap.size 5 1 q n ys->w7.ownsRow w.heap.size 5 1 q n ys:=fun b=>
    KA (QB b o) Q (fun x j hm=>own_ne (QB b o) (QB d (c.tO o)) (by decide) j (uq hm))
   go_roundw
   case rel=>
    refine⟨k+1,a++[⟨6+2*(k+P)+0,Value.slice C 64 D,bs⟩],Z,by go_num,?_,by show _=_;rw[AE,ZA H];rfl,fun q b=>?_,ZB (by rw[Bf,ZA J,Zv,<- ZA a1,<- ZA a5];rfl),(f.tO (c.tO o)).trans Q (fun x j=>.inr (a8 x j))⟩
    . rw[BM]
      exact a7
    rcases AD.1 b with b | b
    . obtain⟨q1,q2,q3⟩:=I q b
      exact⟨q1,q2,R (QB q3 c)⟩
    simp only[Ag] at b
    subst b;exact⟨N,by simp only;omega,R (QB (VC t (AB f.size l.size)) O)⟩
   case measure=>simp[intOf];omega
 obtain rfl:k=P:=Z
 obtain⟨p,r,rfl,_⟩:=XB d;go_wp2_with fail;go_ret;have e:=ZA H;exact⟨_,a,rfl,by rw[e];exact d,e,I,ZA J,f⟩
def Ym (D:PDisk) (l:List (Nat×List UInt8)):PDisk:=l.foldl (fun D p=>Qe D p.1 p.2 (p.2.length / 64)) D
theorem XAJ (D:PDisk) (l m:List (Nat×List UInt8)):Ym D (l++m)=Ym (Ym D l) m:=List.foldl_append ..
def reg0:PReg:=⟨1,1,1,0,0,0,⟨0,0,1,0,1⟩⟩
def us0:List (Nat×Nat):=(1,0) :: List.replicate 7 (0,0)
def ZAV (B:Nat):List UInt8:=VBo reg0 (pgs B) (List.replicate (pgs B) 0) (List.replicate (pgs B) 0) us0
def XBU (B:Nat):List (Nat×List UInt8):=
 ((Qj 0 0 B (pgs B)++Qj (pgs B) (-1) B (pgs B))++[(2,ZAV B),(4,List.replicate 128 0)])++[(0,List.replicate 64 0),(1,QBb B 1 1)]
def QBm (n B:Nat):PDisk:=(Ym (PDisk.new n) (XBU B)).flush
theorem ZAs {w:World} {base d:Nat} (n B:Nat) (ao:1<=B) (ap:B<=64) (hn:n=198+4*pgs B) (h:DiskAt w base d F (PDisk.new n)) (e4:base<=w.heap.size) :
 Calls prog 180 #[pq d,.agg #[ii B,ii 8,ii 24],ii 1] w fun e w'=>e=.returned (.tuple #[ii 1,zz]) /\
  ∃ O D,DiskAt w' base d O D/\D=QBm n B/\D.n=n/\D.off=false/\D.fuse = -1/\D.acts<=200/\D.faults=List.replicate n false/\Keep F w w'/\Grow w F O:=by
 have bo:=fun W=>XAV W B ao ap;have bp:∀ W,kz w W->cq 282 #[pq d] W n:=fun W (hk:kz w W)=>QAV W base d F (PDisk.new n) (h.kO hk);have r:=Blk.new w 28 #[ii B,ii 8,ii 24];have bq:=fun W (hk:kz w W)=>ZBG n Z (h.kO hk);have br:∀ W,Calls prog 285 #[.agg #[ii B,ii 8,ii 24,ii 1,ii 1]] W fun e w'=>∃ u,e=.returned (.tuple #[u,zz])/\w'.ownsRow W.heap.size 5 1 u 64 (bys (QBb B 1 1))/\kz W w':=fun W=>ZBZ B 1 1 ao ap Z Z W;have bs:PReg.May ⟨1,1,1,0,0,0,⟨0,0,1,0,1⟩⟩:=by simp[PReg.May,PPos.May]
 have e5:=ZD ao ap;go_enter func180,ntmps180
 go_wp2_with (first
  | (go_at_call 32
     refine(bo _).mono ?_;clear bo;rintro e w1 ⟨g,rfl,f,d8,ar⟩;have au:=SectorsG_is w1 g B f;rw[<- hn] at au;replace r:=r.kO ar
     have c:kz w w1:=(kq.alloc _).tO ar)
  | (go_at_call 282;refine(bp _ c).mono ?_;clear bp;rintro e w' ⟨rfl,rfl⟩)
  | (go_at_call 254
     refine au.mono ?_;clear au;rintro e w2 ⟨rfl,M⟩;replace c:=c.tO M;replace f:=f.kO M
     replace r:=r.kO M)
  | (go_at_call 283
     refine(bq _ c).mono ?_;clear bq;rintro e w3 ⟨av,aw,ax,ay,rfl,bt,bu,ac⟩;replace c:=c.tO ac;replace f:=f.kO ac;replace r:=r.kO ac
     have bv:=JAk (A:=av) (B:=ax) aw ay ((Rd.of_own bt).keep (kq.alloc (.cells #[.slice av 64 aw,.slice ax 64 ay] 334))) ((Rd.of_own bu).keep (kq.alloc (.cells #[.slice av 64 aw,.slice ax 64 ay] 334))))
  | (go_at_call 284
     refine bv.mono ?_;clear bv;rintro e w4 ⟨rfl,ad⟩;replace c:=c.tO ((kq.alloc _).tO ad);replace f:=f.kO ((kq.alloc _).tO ad);replace r:=r.kO ((kq.alloc _).tO ad);obtain⟨k0,k1,k2⟩:cl w4 w.heap.size (ii B)/\cl w4 (aq w.heap.size 1) (ii 8)/\cl w4 (aq w.heap.size 2) (ii 24):=⟨uq (r.cell 0),uq (r.cell 1),uq (r.cell 2)⟩
     have d9:=r.lt)
  | (go_at_call 285
     refine(br _).mono ?_;clear br;rintro e w5 ⟨su,rfl,m,az⟩;have b0:=length_supB B 1 1;obtain⟨da,b1⟩:=ex (QBb B 1 1);rw[<- b1] at m b0;have bw:=ZB b1;clear b1;obtain⟨y,C,rfl,_⟩:=XB m;replace m:=VC m (c.alloc _).size;replace c:=(c.alloc _).tO az;replace f:=f.kO ((kq.alloc _).tO az)
     have bx:Calls prog 181 #[pq g,ii 1] w5 _:=JAZ f 1)
  | (go_at_call 181
     refine bx.mono ?_;clear bx;rintro e w6 ⟨e6,sc,db,uc,rfl,b2,bz,ae⟩;replace c:=c.tO ae;replace f:=f.kO ae;replace m:=QB m ae
     have c2:=KBG f bs sc (List.replicate (pgs B) 0) sc (List.replicate (pgs B) 0) (Rd.of_own b2) (Rd.of_own b2) (fun z hz=>by rw[AX hz];omega) (fun z hz=>by rw[AX hz];omega) db uc (Rd.of_ownN bz) segsOk_first)
  | (go_at_call 226
     refine c2.mono ?_;clear c2 b2 bz;rintro e w7 ⟨ru,rfl,p,af⟩;have b3:(ZAV B).length=128:=Kj _ _ _ _ rfl;replace p:w7.ownsRow w6.heap.size 5 1 ru 128 (bys (ZAV B)):=p;obtain⟨dc,b4⟩:=ex (ZAV B);rw[<- b4] at p b3;have c4:=ZB b4;clear b4;obtain⟨ag,ah,rfl,_⟩:=XB p;replace p:=VC p c.size;replace c:=c.tO af;replace f:=f.kO af;replace m:=QB m af
     have c5:=YAZ f false)
  | (go_at_call 287
     refine c5.mono ?_;clear c5;rintro e w8 ⟨v8,v,rfl,N,b5,a3,c6,a4⟩;have c7:=ZB c6;clear c6;have c8:∀ q∈v,PtOk w8 w.heap.size n q:=fun q a=>⟨1,Z,Z,(a3 q a).1,by have:=(a3 q a).2.1;omega,VC (a3 q a).2.2 c.size⟩;replace N:=VC N c.size;replace c:=c.tO a4;replace f:=f.kO a4;replace m:=QB m a4;replace p:=QB p a4
     have c9:=YAZ f true)
  | (go_at_call 287
     refine c9.mono ?_;clear c9;rintro e w9 ⟨v9,E,rfl,ai,b6,a5,ca,P⟩;have cb:=ZB ca;clear ca
     have cc:∀ q∈v++E,PtOk w9 w.heap.size n q:=fun q a=>by
      rcases AD.1 a with a | a
      . exact(c8 q a).map (fun h=>QB h P)
      exact⟨1,Z,Z,(a5 q a).1,by have:=(a5 q a).2.1;omega,VC (a5 q a).2.2 c.size⟩
     have cd:(v++E).length=pgs B+pgs B:=by rw[AE,b5,b6]
     replace c:=c.tO P;replace f:=f.kO P;replace m:=QB m P;replace p:=QB p P;replace N:=QB N P;obtain⟨Q,R,e8,b7,dd⟩:=YD N Z;obtain⟨S,T,e9,b8,de⟩:=YD ai Z;rw[b5] at e8 b7 N;rw[b6] at e9 b8 ai;subst e8;subst e9
     have ce:=YAh (A:=(some ⟨w9.heap.size,0,none⟩)) (n:=2) 2 (ls:=[(.slice (some Q) (pgs B) R,pgs B,v.flatMap ptc),(.slice (some S) (pgs B) T,pgs B,E.flatMap ptc)]) (w:=(w9.alloc (.cells #[.slice (some Q) (pgs B) R,.slice (some S) (pgs B) T] 342)))
      ⟨Rd.of_blk (n:=2) (Blk.new w9 342 #[.slice (some Q) (pgs B) R,.slice (some S) (pgs B) T]) sq,fun q a=>by
        simp only[AL,DA,DZ] at a;rcases a with rfl | rfl
        . exact⟨⟨⟨Q,0,none⟩,R,rfl,b7,(Rd.of_ownN N).keep (kq.alloc _)⟩,YAY _ _ v (fun q a=>⟨_,(a3 q a).2.2⟩),by show pgs B<=1000;omega⟩
        . exact⟨⟨⟨S,0,none⟩,T,rfl,b8,(Rd.of_ownN ai).keep (kq.alloc _)⟩,YAY _ _ E (fun q a=>⟨_,(a5 q a).2.2⟩),by show pgs B<=1000;omega⟩⟩ (by simp[ZAB];omega) (by simp[ZAB];omega) Z)
  | (go_at_call 286
     refine ce.mono ?_;clear ce;rintro e t ⟨e7,rfl,I,cf⟩;have cg:ZAB [(Value.slice (some Q) (pgs B) R,pgs B,v.flatMap ptc),(.slice (some S) (pgs B) T,pgs B,E.flatMap ptc)]=2*pgs B:=by simp[ZAB];omega
     have ch:JBS [(Value.slice (some Q) (pgs B) R,pgs B,v.flatMap ptc),(.slice (some S) (pgs B) T,pgs B,E.flatMap ptc)]=(v++E).flatMap ptc:=by simp[JBS]
     rw[cg,ch] at I;clear cg ch;obtain⟨G,b9⟩:=ex (2*pgs B);rw[<- b9] at I;have df:G<=10:=Z
     have ci:=ZB b9;clear b9;replace I:=VC I (c.alloc _).size;obtain⟨dg,dh,rfl,_⟩:=XB I;have a0:=((Keep.refl [] w9).alloc (.cells #[.slice (some Q) (pgs B) R,.slice (some S) (pgs B) T] 342)).tO cf;replace c:=c.tO a0;have cj:∀ q∈v++E,PtOk t w.heap.size n q:=fun q a=>(cc q a).map (fun h=>QB h a0);replace f:=f.kO a0;replace m:=QB m a0;replace p:=QB p a0;have ck:cq 229 #[pq g,zz] t (ii 2):=Qq t g B f 0 Z;have cm:cq 229 #[pq g,ii 1] t (ii 4):=Qq t g B f 1 Z
     have cn:=RegionLenG_is t g B f)
  | (go_at_call 229;refine ck.mono ?_;clear ck;rintro e w' ⟨rfl,rfl⟩)
  | (go_at_call 229;refine cm.mono ?_;clear cm;rintro e w' ⟨rfl,rfl⟩)
  | (go_at_call 244;refine cn.mono ?_;clear cn;rintro e w' ⟨rfl,rfl⟩)
  | (at_make
     refine elem8N.wp_make rfl _ _ rfl .i64 .i64 128 rfl rfl Z Z ?_;intro a6 di dj dk co U;obtain rfl:di=t.heap.size:=dj
     clear dk)
  | (at_builtin
     refine elemPart.wp_app rfl (.tmp 93) (.tmp 105) rfl w.heap.size (.slice dg G dh) G ((v++E).flatMap ptc) rfl (XE (QB I U) _) ⟨a6.heap.size,0,none⟩ 2 2 [.int .i64 2,.slice ag 128 ah,.int .i64 4,.slice (some t.heap.size) 128 128] rfl (by
      have:=Rd.of_blk (n:=4) (Blk.new a6 345 #[ii 2,.slice ag 128 ah,ii 4,.slice (some t.heap.size) 128 128]) sq;exact this) (by simp[Value.oneCell']) Z Z (AB c.size (AB U.size sq)) ?_
     intro dl b V ba _ _;have bb:kz t (a6.alloc (.cells #[ii 2,.slice ag 128 ah,ii 4,.slice (some t.heap.size) 128 128] 345)):=U.alloc _;have H:∀ {q:Value} {n:Nat} {ys:List Value},a6.ownsRow w.heap.size 5 1 q n ys->b.ownsRow w.heap.size 5 1 q n ys:=fun a=>KA (XE a _) ba (fun x j J=>own_ne (XE a _) (QB I bb) (by decide) j (uq J));have cp:a6.ownsRow w.heap.size 5 1 (.slice (some t.heap.size) 128 128) 128 (bys (List.replicate 128 0)):=JN (e:=5) (s:=1) (z:=.int .u8 0) co Z c.size Z (by simp[bys,by8]) rfl;have cr:=H (QB m U);obtain⟨a7,a8⟩:=ex ((v++E)++[⟨2,.slice ag 128 ah,dc⟩,⟨4,.slice (some t.heap.size) 128 128,List.replicate 128 0⟩]);have cs:a7.length=G+2:=by rw[a8,AE,cd,ZA ci];simp;omega
     have ct:∀ q∈a7,PtOk b w.heap.size n q:=fun q a=>by
      rw[a8] at a;simp only[AD,AL,DA,DZ] at a;rcases a with a | rfl | rfl
      . exact(cj q (uq a)).map (fun h=>H (QB h U))
      . exact⟨2,Z,Z,b3,by simp only;omega,H (QB p U)⟩
      exact⟨2,Z,Z,sq,by simp only;omega,H cp⟩
     replace V:b.ownsRow w.heap.size 345 2 dl (G+2) (a7.flatMap ptc):=by rw[a8,BM];exact V
     have aj:kz w b:=(c.tO bb).trans ba (fun x j=>.inr (own_mem I j).1);obtain⟨dm,dn,rfl,_⟩:=XB V))
 have cu:=ZB a8;clear a8 H cp cj cc c8 a3 a5 p m N ai I cd b5 b6 U ba co;have ak:∀ W:World,(Instr.makeSlice 66 (.int .i64 64) (.int .i64 64)).run prog W=.ok (.slice (some (aq W.heap.size 0)) 64 64) (W.alloc (.cells (Array.replicate 64 (.int .u8 0)) 5)):=fun W=>elem8.run_make .i64 .i64 64 64 Z Z Z W;have bc:∀ W,cq 288 #[pq g,zz] W zz:=fun W=>ZAM W g 0 Z;have al:∀ W,cq 288 #[pq g,ii 1] W (ii 1):=fun W=>ZAM W g 1 Z;refine ZR (fun _=>True) 15 (.held 0 (.held 1 (.held 2 (.held 3 (.held 4 (.held 8 (.held 9 (.held 10 (.held 12 (.two 5 (.two 6 (.held 7 (.loud 11 (.held 13 (.loud 14 .nil)))) 11 (.held 13 (.loud 6 (.held 7 (.loud 14 .nil))))) 6 (.loud 5 (.held 7 (.loud 11 (.held 13 (.loud 14 .nil))))))))))))))) trivial ?_;simp only[RT.pick,PJ];iterate 9 refine wW ?_
 refine @VBn ?R _ (fun bd=>?_) ?_;rotate_left
 . refine wpR_two ?_ ?_
   . refine wpR_loud rq fun K l=>?_
     go_wp2_with (refine(bc _).mono ?_;rintro e w' ⟨rfl,rfl⟩);refine l _ _ (trivial) ?_
     try simp only[Act.put,PU]
     refine wpR_two ?_ ?_
     . refine wpR_loud rq fun K l=>?_
       have cv:=ak b.drew;go_wp2_with fail;refine l _ _ (trivial) ?_
       iterate 1 refine wW ?_
       refine wpR_loud rq fun K l=>?_;go_wp2_with (refine(al _).mono ?_;rintro e w' ⟨rfl,rfl⟩);refine l _ _ (trivial) ?_
       iterate 1 refine wW ?_
       refine wpR_loud rq fun K l=>?_;go_wp2_with fail;refine l _ _ (trivial) ?_
       try simp only[Act.put,PU]
       refine wpR_nil ?_;exact bd
     refine wpR_loud rq fun K l=>?_
     go_wp2_with (refine(al _).mono ?_;rintro e w' ⟨rfl,rfl⟩);refine l _ _ (trivial) ?_
     iterate 1 refine wW ?_
     refine wpR_loud rq fun K l=>?_;have cv:=ak b.drew;go_wp2_with fail;refine l _ _ (trivial) ?_
     iterate 1 refine wW ?_
     refine wpR_loud rq fun K l=>?_;go_wp2_with fail;refine l _ _ (trivial) ?_
     try simp only[Act.put,PU]
     refine wpR_nil ?_;exact bd
   refine wpR_loud rq fun K l=>?_
   have cv:=ak b.drew;go_wp2_with fail;refine l _ _ (trivial) ?_
   try simp only[Act.put,PU]
   refine wpR_loud rq fun K l=>?_;go_wp2_with (refine(bc _).mono ?_;rintro e w' ⟨rfl,rfl⟩);refine l _ _ (trivial) ?_
   iterate 1 refine wW ?_
   refine wpR_loud rq fun K l=>?_;go_wp2_with (refine(al _).mono ?_;rintro e w' ⟨rfl,rfl⟩);refine l _ _ (trivial) ?_
   iterate 1 refine wW ?_
   refine wpR_loud rq fun K l=>?_;go_wp2_with fail;refine l _ _ (trivial) ?_
   try simp only[Act.put,PU]
   refine wpR_nil ?_;exact bd
 have cw:(b.alloc (.cells (Array.replicate 64 (.int .u8 0)) 5)).ownsRow w.heap.size 5 1 (.slice (some b.heap.size) 64 64) 64 (bys (List.replicate 64 0)):=
  QR (Blk.new b 5 _) aj.size Z sq (by simp[bys,by8])
 have cx:Blk (((b.alloc (.cells (Array.replicate 64 (.int .u8 0)) 5)).alloc (.cells #[zz,.slice (some b.heap.size) 64 64,ii 1,.slice y 64 C] 345)).drew) (b.heap.size+1) 345 #[zz,.slice (some b.heap.size) 64 64,ii 1,.slice y 64 C]:=by
  have:=Blk.new (b.alloc (.cells (Array.replicate 64 (.int .u8 0)) 5)) 345 #[zz,.slice (some b.heap.size) 64 64,ii 1,.slice y 64 C];rw[show (b.alloc (.cells (Array.replicate 64 (.int .u8 0)) 5)).heap.size=b.heap.size+1 from sq] at this;exact this.drew
 have X:kz b (((b.alloc (.cells (Array.replicate 64 (.int .u8 0)) 5)).alloc (.cells #[zz,.slice (some b.heap.size) 64 64,ii 1,.slice y 64 C] 345)).drew):=((kq.alloc _).alloc _).drew;have cy:=(XE cw (.cells #[zz,.slice (some b.heap.size) 64 64,ii 1,.slice y 64 C] 345)).drew;have dp:b.heap.size+2=(((b.alloc (.cells (Array.replicate 64 (.int .u8 0)) 5)).alloc (.cells #[zz,.slice (some b.heap.size) 64 64,ii 1,.slice y 64 C] 345)).drew).heap.size:=sq
 generalize (((b.alloc (.cells (Array.replicate 64 (.int .u8 0)) 5)).alloc (.cells #[zz,.slice (some b.heap.size) 64 64,ii 1,.slice y 64 C] 345)).drew)=w14 at *;have cz:Rd w14 (some ⟨b.heap.size+1,0,none⟩) 4 [.int .i64 0,.slice (some b.heap.size) 64 64,.int .i64 1,.slice y 64 C]:=Rd.of_blk (n:=4) cx sq;have dq:b.heap.size+1<w14.heap.size:=Z
 clear cx cw ak dp;refine elemPart.wp_app rfl (.tmp 107) (.tmp 121) rfl w.heap.size (.slice dm (G+2) dn) (G+2) (a7.flatMap ptc) rfl (QB V X) ⟨b.heap.size+1,0,none⟩ 2 2 [.int .i64 0,.slice (some b.heap.size) 64 64,.int .i64 1,.slice y 64 C] rfl cz (by simp[Value.oneCell']) Z Z (AB aj.size X.size) ?_;intro dr a1 Y bf _ _;have H:∀ {q:Value} {n:Nat} {ys:List Value},w14.ownsRow w.heap.size 5 1 q n ys->a1.ownsRow w.heap.size 5 1 q n ys:=fun a=>KA a bf (fun x j J=>own_ne a (QB V X) (by decide) j (uq J));obtain⟨o,a9⟩:=ex (a7++[⟨0,.slice (some b.heap.size) 64 64,List.replicate 64 0⟩,⟨1,.slice y 64 C,da⟩])
 have ds:Hid (o.map KBg=XBU B):=ZB (by
  rw[a9,ZA cu,Bf,Bf,Bf,ZA c7,ZA cb];simp only[CN,Cx,KBg,ZA c4,ZA bw];rfl)
 have d0:o.length=G+2+2:=by rw[a9,AE,cs];rfl
 have dt:∀ q∈o,PtOk a1 w.heap.size n q:=fun q a=>by
  rw[a9] at a;simp only[AD,AL,DA,DZ] at a;rcases a with a | rfl | rfl
  . exact(ct q a).map (fun h=>H (QB h X))
  . exact⟨1,Z,Z,sq,by simp only;omega,H cy⟩
  exact⟨1,Z,Z,b0,by simp only;omega,H (QB cr X)⟩
 replace Y:a1.ownsRow w.heap.size 345 2 dr (G+2+2) (o.flatMap ptc):=by rw[a9,BM];exact Y
 have bg:kz w a1:=(aj.tO X).trans bf (fun x j=>.inr (own_mem V j).1);obtain⟨ea,eb,rfl,_⟩:=XB Y;obtain⟨a2,d1⟩:=ex (G+2+2);rw[<- d1] at Y d0 ⊢;have ec:a2<=14:=Z
 obtain⟨vb,vc,ev,ed,ee⟩:=YD Y Z;injection ev with ev1 _ ev3;subst ev1 ev3;have du:=h.kO bg;have bh:∀ x∈F,x<w.heap.size:=h.lt;have ef:=bg.size;clear c7 cb c4 bw;clear H a9 cu ct X cy cz dq bf aj V cs cr b0 bc al f c ci df d1 d8 r bs h b3 d9 bb k0 k1 k2;clear ar M ac ad az ae af a4 P cf a0 bt bu b7 b8 dd de;go_wp2_with fail;go_loopw [6,7,17,18,125] (fun mo eo _ _ i wr=>∃ (k:Nat) (O:List Nat) (D:PDisk),k<=a2/\i=.int .i64 (k:Nat)/\mo=.int .i64 1/\eo=.int .i64 0/\DiskAt wr base d O D/\Hid (D=Ym (PDisk.new n) ((o.take k).map KBg))/\D.n=n/\D.off=false/\D.fuse = -1/\D.acts<=2*k/\D.faults=List.replicate n false/\(∀ x∈O,x∈F\/a1.heap.size<=x)/\Keep F a1 wr) (fun _ _ _ _ i _=>a2-(intOf i).toNat)
 case atStart=>exact⟨0,F,PDisk.new n,AP _,rfl,rfl,rfl,du,rfl,rfl,rfl,rfl,AP _,rfl,fun x j=>.inl j,kq⟩
 obtain⟨k,O,D,hk,rfl,rfl,rfl,d2,d3,d4,am,an,eg,d5,aa,L⟩:=hrel;have bi:=KA Y L (fun x j J=>by have:=bh x J;have:=own_mem Y (g:=x) (uq j);omega);by_cases dv:k<a2
 . have eh:((k:Nat):Int)<(a2:Nat):=Z
   have bj:k<o.length:=by rw[d0];exact dv
   have dw:cl wr (aq vb (k*2)) (o[k].a:Nat):=XL bi (by rw[show k*2=k*2+0 from rfl,YN XAD o k 0 bj Z];rfl);have dx:wr.cell? (aq vb (k*2+1))=some o[k].v:=XL bi (by rw[YN XAD o k 1 bj Z];rfl);obtain⟨kk,dy,ei,bk,dz,ab⟩:=dt o[k] (AN _);have e0:Hid (o.take (k+1)=o.take k++[o[k]]):=ZB (AO bj);generalize o[k]=q at *;obtain⟨qa,qv,qb⟩:=q;simp only at dw dx bk dz ab;obtain⟨qg,qc,rfl,e1⟩:=JI ab Z;have ej:=own_mem ab (g:=qg) (by simp[Value.ownBlock]);have e2:=KA ab L (fun x j J=>by have:=bh x J;have:=own_mem ab (g:=x) (uq j);omega);have d6:=YBT (w:=(wr.alloc (.cells #[qa,.slice (some qg) (64*kk) qc] 345))) (base:=base) (d:=d) (F:=O) (D:=D) (d2.kO (kq.alloc _)) am an (by have:=L.size;simp;omega) qa kk qg 0 qc qb dy Z bk e1 Z Z ((Rd.of_own e2).keep (kq.alloc _)) (by have:=L.size;simp;omega) (fun J=>by rcases aa _ J with h | h;(have:=bh _ h;omega);omega);have ek:=YAI bi
   go_wp2_with (go_at_call 228
                refine d6.mono ?_;clear d6;rintro e e3 ⟨rfl,bl,bm,M,bn⟩)
   go_roundw
   case rel=>
    obtain⟨l1,l2,l3,l4,l5,_⟩:=QP D qa qb kk;refine⟨k+1,bl,_,Z,by go_num,rfl,rfl,bm,ZB (by rw[ZA e0,Bf,XAJ,<- ZA d3];show _=Qe D qa qb (qb.length / 64);rw[bk,Nat.mul_div_cancel_left _ Z]),l1.trans d4,l2.trans am,l3.trans an,by rw[l4];omega,l5.trans d5,fun x j=>?_,L.trans (((Keep.refl [] wr).alloc (.cells #[qa,.slice (some qg) (64*kk) qc] 345)).zero.trans M (fun x j=>.inl j)) (fun x j=>aa x j)⟩;rcases bn x j with h | h
    . exact aa x h
    have:=L.size;simp at h;right;omega
   case measure=>simp[intOf];omega
 obtain rfl:a2=k:=Z
 have d7:=Xt d2 am an Z (by have:=L.size;omega);go_wp2_with (refine d7.mono ?_;clear d7;rintro e e3 ⟨rfl,bl,bm,M,bn⟩);go_ret2;refine⟨rfl,bl,D.flush,bm,by rw[ZA d3,AK Z,ZA ds];rfl,d4,am,an,by show D.acts+1<=200;omega,d5,?_,?_⟩
 . exact(bg.zero.trans L (fun x j=>.inl j)).trans M (fun x j=>by rcases aa x j with h | h;(exact .inl h);(right;omega))
 intro x j
 rcases bn x j with h | h
 . rcases aa x h with h | h
   . exact .inl h
   right;omega
 right;have:=L.size;omega
theorem TableAt.rebase {w:World} {t g:Nat} {us:List (Nat×Nat)} {lv:List Nat} (h:TableAt w b t g F us lv) (a:b'<=b):TableAt w b' t g F us lv:=by
 obtain⟨L,V,h⟩:=h;exact⟨L,V,h.blk,VC h.l a,VC h.live a,h.foot,AB a h.base,h.ulen,h.uok,h.lok⟩
theorem WriterAt.rebase {w:World} {p d g t:Nat} {W:PW} (h:WriterAt w b p d g t F W) (a:b'<=b):WriterAt w b' p d g t F W:=by
 obtain⟨I,B,ls,h⟩:=h;exact⟨I,B,ls,h.blk,VC h.its a,VC h.bls a,fun q c=>VC (h.dat q c) a,h.snd,h.foot,AB a h.base⟩
theorem PagedAt.rebase {w:World} {p:Nat} {l:List Int} {c:List Bool} (h:PagedAt w b p F l c) (a:b'<=b):PagedAt w b' p F l c:=by
 obtain⟨L,U,h⟩:=h;exact⟨L,U,h.blk,VC h.rl a,VC h.rd a,h.foot,AB a h.base,h.pos,h.few,h.pages⟩
theorem ImageAt.rebase {w:World} {m:Nat} {I:PImage} (h:ImageAt w b m F I) (a:b'<=b):ImageAt w b' m F I:=by
 obtain⟨c,d,e,f,h⟩:=h;exact⟨c,d,e,f,h.blk,h.b.rebase a,h.o.rebase a,h.apart,h.m1,h.m2,h.foot,AB a h.base,h.ok⟩
def PS.fresh (B:Nat) (D:PDisk):PS:=
 ⟨D,(1,0) :: List.replicate 7 (0,0),List.replicate 8 0,⟨⟨0,0,1,0,1⟩,[],[]⟩,⟨List.replicate B 0,List.replicate (pgs B) false,List.replicate B (-1),List.replicate (pgs B) false⟩,⟨1,1,0,0,0,1,1⟩,0,List.replicate (pgs B) 0,List.replicate (pgs B) 0⟩
theorem PS.fresh_good {B n:Nat} (d:1<=B) (e:B<=64) (f:n=198+4*pgs B) (g:D.now.length=D.n*64) (b:D.n=n) (h:D.acts<=200) (c:D.faults=List.replicate n false):Good B (PS.fresh B D) 0 0:=by
 refine⟨⟨VBF _,rfl,by simp[PS.fresh],by simp[PS.fresh],by simp[PS.fresh],⟨0,0,Z,by simp[PS.fresh,QT],by simp[PS.fresh,YB]⟩,by show D.acts<=_;omega,by simp[PS.fresh]⟩,g,b.trans f,?_,?_,d,e,by simp[PS.fresh],by simp[PS.fresh],?_,?_,by simp[PS.fresh],by simp[PS.fresh],by simp[PS.fresh]⟩
 . intro x a
   simp only[PS.fresh,c] at a;exact AX a
 . simp only[PS.fresh,c,BD];exact b.symm
 . intro x a
   simp only[PS.fresh] at a;exact .inl (AX a)
 intro x a
 simp only[PS.fresh] at a;exact .inl (AX a)
def VAV (n B:Nat) (D:PDisk):Prop:=D=QBm n B
theorem ZAy {w:World} {base d:Nat} (n B:Nat) (E:1<=B) (G:B<=64) (Q:n=198+4*pgs B) (h:DiskAt w base d F (PDisk.new n)) (bg:base<=w.heap.size) :
 Calls prog 69 #[pq d,.agg #[ii B,ii 8,ii 24],ii 1] w fun e w'=>∃ s,e=.returned (.tuple #[pq s,zz]) /\
  ∃ a9 D,StoreAt w' base s d a9 B (PS.fresh B D)/\(Good B (PS.fresh B D) 0 0/\VAV n B D)/\Keep F w w'/\Grow w F a9:=by
 have v:=ZAs (w:=(w.alloc (.cells #[ii B,ii 8,ii 24] 28))) (base:=base) (d:=d) n B (F:=F) E G Q (h.kO (kq.alloc _)) (by simp;omega);have aa:=fun W=>XAV W B E G;have bh:=ZD E G;have ap:=Blk.new w 28 #[ii B,ii 8,ii 24];have ar:=h.lt;have au:PPos.May ⟨0,0,1,0,1⟩:=by simp[PPos.May]
 go_enter func69,ntmps69
 go_wp2_with (first
  | (go_at_call 180
     refine v.mono ?_;clear v;rintro e w1 ⟨rfl,R,D,S,T,ab,av,aw,ax,ay,U,az⟩;replace T:VAV n B D:=T;have J:=ap.keep U (fun hm=>by have:=ar _ hm;omega)
     obtain⟨k0,k1,k2⟩:cl w1 w.heap.size (ii B)/\cl w1 (aq w.heap.size 1) (ii 8)/\cl w1 (aq w.heap.size 2) (ii 24):=⟨uq (J.cell 0),uq (J.cell 1),uq (J.cell 2)⟩)
  | (go_at_call 32
     refine(aa _).mono ?_;clear aa;rintro e L ⟨g,rfl,M,bi,ac⟩
     have ad:Calls prog 181 #[pq g,ii 1] L fun e w'=>∃ j i o q,e=.returned (.agg #[ii 1,ii 1,ii 1,zz,zz,zz,zz,zz,ii 1,zz,ii 1,.slice j (pgs B) i,.slice j (pgs B) i,.slice (some (aq o 0)) 8 q]) /\
      w'.ownsRow L.heap.size 3 1 (.slice j (pgs B) i) (pgs B) (XP (List.replicate (pgs B) 0))/\w'.ownsRow L.heap.size 166 2 (.slice (some (aq o 0)) 8 q) 8 (((1,0) :: List.replicate 7 (0,0)).flatMap Vw)/\kz L w':=JAZ M 1)
  | (go_at_call 181
     refine ad.mono ?_;clear ad;rintro e k ⟨j,i,o,q,rfl,b0,b1,N⟩;have b2:=M.kO N;have ae:=ac.tO N))
 have af:=(Keep.refl [] k).alloc (.cells #[ii 1,ii 1,ii 1,zz,zz,zz,zz,zz,ii 1,zz,ii 1,.slice j (pgs B) i,.slice j (pgs B) i,.slice (some (aq o 0)) 8 q] 240);have V:kz w1 (k.alloc (.cells #[ii 1,ii 1,ii 1,zz,zz,zz,zz,zz,ii 1,zz,ii 1,.slice j (pgs B) i,.slice j (pgs B) i,.slice (some (aq o 0)) 8 q] 240)):=ae.alloc _;have b:=Blk.new k 240 #[ii 1,ii 1,ii 1,zz,zz,zz,zz,zz,ii 1,zz,ii 1,.slice j (pgs B) i,.slice j (pgs B) i,.slice (some (aq o 0)) 8 q];have b3:=XE b0 (.cells #[ii 1,ii 1,ii 1,zz,zz,zz,zz,zz,ii 1,zz,ii 1,.slice j (pgs B) i,.slice j (pgs B) i,.slice (some (aq o 0)) 8 q] 240);have b4:=XE b1 (.cells #[ii 1,ii 1,ii 1,zz,zz,zz,zz,zz,ii 1,zz,ii 1,.slice j (pgs B) i,.slice j (pgs B) i,.slice (some (aq o 0)) 8 q] 240);have ag:=b2.kO (kq.alloc (.cells #[ii 1,ii 1,ii 1,zz,zz,zz,zz,zz,ii 1,zz,ii 1,.slice j (pgs B) i,.slice j (pgs B) i,.slice (some (aq o 0)) 8 q] 240));have ah:=J.kO V;generalize k.alloc (.cells #[ii 1,ii 1,ii 1,zz,zz,zz,zz,zz,ii 1,zz,ii 1,.slice j (pgs B) i,.slice j (pgs B) i,.slice (some (aq o 0)) 8 q] 240)=w4 at *;go_wp2_with fail;have ai:=JBZ (w:=w4.drew) (g:=g) (B:=B) (ag.kO kq.drew) o q _ (Rd.of_ownN b4).drew rfl (by decide);refine ZT (fun w'=>cl w' (aq k.heap.size 13) (.slice (some (aq o 0)) 8 q)/\cl w' w.heap.size (ii B)) 6 [[0,1,2,4,5],[3]] ⟨(YF b.drew).2.2.2.2.2.2.2.2.2.2.2.2.2,uq (ah.drew.cell 0)⟩ ?_;simp only[PI];iterate 5 refine wG ?_
 refine JB rq fun K X=>?_;go_wp2_with (refine ai.mono ?_;clear ai;rintro e O ⟨t,Ft,rfl,Y,b5⟩);have y:kz w4 O:=kq.drew.tO b5;refine X _ _ (⟨(YF (b.kO y)).2.2.2.2.2.2.2.2.2.2.2.2.2,uq ((ah.kO y).cell 0)⟩) ?_
 try simp only[Act.put,PU]
 refine VB ?_;have aj:=ZBd O B E G;replace b:=b.kO y;have b6:cl O (aq k.heap.size 2) (ii 1):=uq (b.cell 2)
 go_wp2_with (go_at_call 183
              refine aj.mono ?_;clear aj;rintro e r ⟨m,Fm,rfl,a0,H⟩;replace b:=b.kO H;obtain⟨r0,r1,r2,r3,r4,r5,r6,r7,r8,r9,b7,b8,b9,ba⟩:=YF b;have bj:=b.lt)
 have z:kz r (r.alloc (.cells #[ii 1,ii 1,zz,zz,zz,ii 1,ii 1,zz,zz,zz] 58)):=kq.alloc _;have l:=Blk.new r 58 #[ii 1,ii 1,zz,zz,zz,ii 1,ii 1,zz,zz,zz];replace b:=b.kO z;clear r0 r1 r2 r3 r4 r5 r6 r7 r8 r9 b7 b8 b9 ba b6;generalize r.alloc (.cells #[ii 1,ii 1,zz,zz,zz,ii 1,ii 1,zz,zz,zz] 58)=w7 at *;have bb:=((ag.kO y).kO H).kO z;have ak:Calls prog 185 #[pq d,pq g,pq t,.agg #[zz,zz,ii 1,zz,ii 1]] w7.drew fun e w'=>∃ p F,e=.returned (pq p)/\WriterAt w' w7.drew.heap.size p d g t F ⟨⟨0,0,1,0,1⟩,[],[]⟩/\kz w7.drew w':=ZBc (w:=w7.drew) d (g:=g) t (B:=B) (bb.kO kq.drew) au;refine ZT (fun w'=>cl w' k.heap.size (ii 1)/\cl w' (aq k.heap.size 1) (ii 1)/\cl w' (aq k.heap.size 2) (ii 1)/\cl w' (aq k.heap.size 3) zz/\cl w' (aq k.heap.size 4) zz/\cl w' (aq k.heap.size 5) zz/\cl w' (aq k.heap.size 6) zz/\cl w' (aq k.heap.size 7) zz/\cl w' (aq k.heap.size 8) (ii 1)/\cl w' (aq k.heap.size 9) zz/\cl w' (aq k.heap.size 10) (ii 1)/\cl w' (aq k.heap.size 11) (.slice j (pgs B) i)/\cl w' (aq k.heap.size 12) (.slice j (pgs B) i)/\cl w' (aq k.heap.size 13) (.slice (some (aq o 0)) 8 q)/\cl w' r.heap.size (ii 1)/\cl w' (aq r.heap.size 1) (ii 1)/\cl w' (aq r.heap.size 2) zz/\cl w' (aq r.heap.size 3) zz/\cl w' (aq r.heap.size 4) zz/\cl w' (aq r.heap.size 5) (ii 1)/\cl w' (aq r.heap.size 6) (ii 1)/\cl w' (aq r.heap.size 7) zz/\cl w' (aq r.heap.size 8) zz/\cl w' (aq r.heap.size 9) zz) 12 [[0,1,2,3,4,5,6,7,9,10,11],[8]] ⟨(uq ((b.drew).cell 0)),(uq ((b.drew).cell 1)),(uq ((b.drew).cell 2)),(uq ((b.drew).cell 3)),(uq ((b.drew).cell 4)),(uq ((b.drew).cell 5)),(uq ((b.drew).cell 6)),(uq ((b.drew).cell 7)),(uq ((b.drew).cell 8)),(uq ((b.drew).cell 9)),(uq ((b.drew).cell 10)),(uq ((b.drew).cell 11)),(uq ((b.drew).cell 12)),(uq ((b.drew).cell 13)),(uq ((l.drew).cell 0)),(uq ((l.drew).cell 1)),(uq ((l.drew).cell 2)),(uq ((l.drew).cell 3)),(uq ((l.drew).cell 4)),(uq ((l.drew).cell 5)),(uq ((l.drew).cell 6)),(uq ((l.drew).cell 7)),(uq ((l.drew).cell 8)),(uq ((l.drew).cell 9))⟩ ?_;simp only[PI];iterate 11 refine wG ?_
 refine JB rq fun K X=>?_;go_wp2_with (refine ak.mono ?_;clear ak;rintro e u ⟨p,Fw,rfl,a1,bc⟩);have f:kz w7 u:=kq.drew.tO bc;refine X _ _ (⟨(uq ((b.kO f).cell 0)),(uq ((b.kO f).cell 1)),(uq ((b.kO f).cell 2)),(uq ((b.kO f).cell 3)),(uq ((b.kO f).cell 4)),(uq ((b.kO f).cell 5)),(uq ((b.kO f).cell 6)),(uq ((b.kO f).cell 7)),(uq ((b.kO f).cell 8)),(uq ((b.kO f).cell 9)),(uq ((b.kO f).cell 10)),(uq ((b.kO f).cell 11)),(uq ((b.kO f).cell 12)),(uq ((b.kO f).cell 13)),(uq ((l.kO f).cell 0)),(uq ((l.kO f).cell 1)),(uq ((l.kO f).cell 2)),(uq ((l.kO f).cell 3)),(uq ((l.kO f).cell 4)),(uq ((l.kO f).cell 5)),(uq ((l.kO f).cell 6)),(uq ((l.kO f).cell 7)),(uq ((l.kO f).cell 8)),(uq ((l.kO f).cell 9))⟩) ?_
 try simp only[Act.put,PU]
 refine VB ?_;have a2:kz w4 u:=(y.tO H).tO (z.tO f);have a3:=(Rd.of_own b3).keep a2
 have al:Calls prog 184 #[pq d,pq t,pq m,pq p,pq g,zz,.agg #[ii 1,ii 1,ii 1,zz,zz,zz,zz,zz,ii 1,zz,ii 1,.slice j (pgs B) i,.slice j (pgs B) i,.slice (some (aq o 0)) 8 q],.agg #[ii 1,ii 1,zz,zz,zz,ii 1,ii 1,zz,zz,zz]] u fun e w'=>∃ s L0 L1,e=.returned (pq s)/\u.heap.size<=s /\
  Blk w' s 146 #[pq d,pq g,pq t,pq m,pq p,ii 1,ii 1,zz,zz,zz,ii 1,ii 1,zz,zz,zz,zz,L0,L1] /\
  w'.ownsRow u.heap.size 3 1 L0 (pgs B) (XP (List.replicate (pgs B) 0))/\w'.ownsRow u.heap.size 3 1 L1 (pgs B) (XP (List.replicate (pgs B) 0))/\kz u w':=
  QBc d t m p g 0 ⟨1,1,1,0,0,0,⟨0,0,1,0,1⟩⟩ i (List.replicate (pgs B) 0) i (List.replicate (pgs B) 0) (some (aq o 0)) 8 q a3 a3 Z ⟨1,1,0,0,0,1,1⟩
 clear a3;go_wp2_with (refine al.mono ?_;clear al;rintro e w9 ⟨s,L0,L1,rfl,bk,a4,a5,a6,A⟩);go_ret2;have z1:=ae.size;have z2:=H.size;have z3:=z.size;have z4:=f.size;have z5:=y.size;have z6:=V.size;have z7:=U.size;have z8:=ac.size;have z9:=N.size;have zg:=M.lt;have bl:k.heap.size<=w4.heap.size:=af.size;simp at z7;have C:=S.lt;have P:=Y.lt;have a7:∀ x∈Ft,w4.heap.size<=x:=Y.ge;have v:=a0.lt;have am:∀ x∈Fm,O.heap.size<=x:=a0.ge;have an:=a1.lt;have I:∀ x∈Fw,w7.heap.size<=x:=a1.ge;have ao:kz w1 w9:=(V.tO a2).tO A
 have a8:∀ x∈L0.ownBlock.toList++L1.ownBlock.toList,u.heap.size<=x/\x≠s:=fun x c=>by
  rcases AD.1 c with c | c
  . exact⟨(own_mem a5 c).1,fun e=>by subst e;exact own_blk_ne a5 a4 (by decide) (uq c)⟩
  exact⟨(own_mem a6 c).1,fun e=>by subst e;exact own_blk_ne a6 a4 (by decide) (uq c)⟩
 have bd:LogIs w9 base d g t p R Ft Fw B D ((1,0) :: List.replicate 7 (0,0)) (List.replicate 8 0) ⟨⟨0,0,1,0,1⟩,[],[]⟩:=
  ⟨S.kO ao,M.kO (((N.tO af).tO a2).tO A),((Y.kO ((H.tO (z.tO f)).tO A)).rebase (by show base<=w4.heap.size;omega)),(a1.kO A).rebase (by show base<=w7.heap.size;omega),
    fun x c a=>by(have:=C x c;have:=a7 x a;omega),fun x c a=>by(have:=C x c;have:=I x a;omega),fun x c a=>by(have:=P x c;have:=I x a;omega),fun a=>by(have:=C g a;omega),fun a=>by(have:=a7 g a;omega),fun a=>by(have:=I g a;omega),
    by simp[PPos.Ok],av,aw,ab.trans Q,by have:=A.size;omega⟩
 have bf:StoreIs w9 base s d g t p m R Ft Fw Fm L0 L1 B (PS.fresh B D):=by
  refine⟨a4,bd,(a0.kO ((z.tO f).tO A)).rebase Z,by simp[PS.fresh],VC a5 Z,VC a6 Z,Z,Z,?_,?_,?_⟩
  . intro x c a
    have h1:=v x c;have h2:=am x c;simp only[AL,AD] at a;rcases a with rfl | a | a | a
    . omega
    . have:=C x a;omega
    . have:=P x a;omega
    have:=I x a;omega
  . intro a
    simp only[AL,AD] at a;rcases a with a | a | a | a | a
    . omega
    . have:=C s a;omega
    . have:=P s a;omega
    . have:=an s a;omega
    have:=v s a;omega
  intro x c a
  obtain⟨h1,h2⟩:=a8 x c;simp only[AL,AD] at a;rcases a with a | a | a | a | a | a
  . exact h2 a
  . omega
  . have:=C x a;omega
  . have:=P x a;omega
  . have:=an x a;omega
  have:=v x a;omega
 refine⟨s,rfl,_,D,⟨g,t,p,m,R,Ft,Fw,Fm,L0,L1,bf,rfl⟩,⟨PS.fresh_good E G Q (by obtain⟨_,_,_,_,hd⟩:=S;exact hd.len.1) ab ax ay,T⟩,?_,?_⟩
 . exact(((Keep.refl [] w).alloc _).zero.trans U (fun x c=>.inl c)).trans ao (fun x c=>by cases c)
 intro x c
 simp only[VO,AL,AD] at c;rcases c with c | c | c | c | c | c | c | c
 . right;omega
 . right;omega
 . rcases az x c with h | h
   . exact .inl h
   right;simp at h;omega
 . have:=a7 x c;right;omega
 . have:=I x c;right;omega
 . have:=am x c;right;omega
 . have:=(a8 x (At _ c)).1;right;omega
 have:=(a8 x (A6 _ c)).1;right;omega
theorem DiskAt.rebase {w:World} {d:Nat} (h:DiskAt w b d F D) (a:b'<=b):DiskAt w b' d F D:=by
 obtain⟨S,N,H,U,h⟩:=h;exact⟨S,N,H,U,h.blk,VC h.safe a,VC h.now a,VC h.held a,VC h.flt a,h.ne,h.foot,AB a h.base,h.pos,h.few,h.ats,h.acts⟩
theorem RDkNew.keepLt {w w':World} {base d n:Nat} {l:List Nat} (h:RDkNew w base d F n) (b:Keep l w w') (c:∀ x∈l,x<base):RDkNew w' base d F n:=by
 obtain⟨S,U,R,e,j,k,m,o,f⟩:=h;exact⟨S,U,R,e.keep b (fun x p a=>by have:=e.ge x p;have:=c x a;omega),j,k,m,o,fun v i=>KA (f v i) b (fun g q a=>by have:=(own_mem (f v i) (g:=g) (uq q)).1;have:=c g a;omega)⟩
theorem YBk (n:Nat) (b:0<n) (c:n<=4096) (w:World):Calls prog 67 #[n] w fun e w'=>∃ d F m Fm b1,e=.returned (.tuple #[pq d,pq m,.bool true])/\DiskAt w' w.heap.size d F (PDisk.new n)/\RDkNew w' b1 m Fm n/\kz w w'/\w.heap.size<=b1/\(∀ x∈F,x<b1)/\(∀ x∈Fm,b1<=x)/\b1<=w'.heap.size:=by
 have f:=JBX n b c w;have g:=fun W=>YAU n b c W;go_enter func67,ntmps67
 go_wp2_with (first
  | (go_at_call 171;refine f.mono ?_;clear f;rintro e w1 ⟨d,F,rfl,h,i⟩)
  | (go_at_call 178;refine(g _).mono ?_;clear g;rintro e q ⟨m,Fm,rfl,j,a⟩))
 have k:∀ x∈Fm,w1.heap.size<=x:=by
  obtain⟨R,l,_⟩:=j.at_;exact l.ge
 have o:=h.lt;have p:=i.size;exact Ac (v:=.tuple #[pq d,pq m,.bool true]) (by simp[results,results67,go_sem]) rfl ⟨d,F,m,Fm,_,rfl,h.kO a,j,i.tO a,p,o,k,a.size⟩
section
variable (w:World) (base s d g t p m:Nat) (Fd Ft Fw Fm:List Nat) (L0 L1:Value) (B:Nat) (S:PS) (h:StoreIs w base s d g t p m Fd Ft Fw Fm L0 L1 B S)
include h
theorem GeomS_is:cq 17 #[pq s] w (pq g):=by
 obtain⟨a,b,c,d,e,f,i,j,k,l,m,n,o,p,q,r,t,u⟩:=KC h.blk;go_enter func17,ntmps17
 go_wp2
 go_ret;exact⟨rfl,rfl⟩
theorem TableS_is:cq 14 #[pq s] w (pq t):=by
 obtain⟨a,b,c,d,e,f,g,i,j,k,l,m,n,o,p,q,r,u⟩:=KC h.blk;go_enter func14,ntmps14
 go_wp2
 go_ret;exact⟨rfl,rfl⟩
end
def KAV (w w':World) (B t d s:Nat) (F:List Nat) (D:PDisk):Prop:=
 ∃ m x:Nat,Blk w' t 41 #[pq d,pq m,pq s,pq x]/\StoreAt w' w.heap.size s d F B (PS.fresh B D)/\Good B (PS.fresh B D) 0 0/\t∉F/\w.heap.size<=t/\kz w w'
theorem Yw (w:World) (B:Nat) (k:1<=B) (l:B<=64):Calls prog 11 #[.agg #[ii B,ii 8,ii 24]] w fun e w'=>∃ t d s F D,e=.returned (.tuple #[pq t,.bool true])/\KAV w w' B t d s F D/\VAV (198+4*pgs B) B D:=by
 have C:=fun W=>SectorsR_is W B k l;have a3:=ZD k l;have E:=fun W=>YBk (198+4*pgs B) Z Z W;have G:=fun W base d F (h:DiskAt W base d F (PDisk.new (198+4*pgs B))) H=>ZAy (w:=W) (base:=base) (d:=d) _ B (F:=F) k l rfl h H;have I:∀ W base d F,RDkNew W base d F (198+4*pgs B)->base<=W.heap.size->Calls prog 70 #[pq d,Je B,ii 1] W fun e w'=>∃ x,e=.returned (.tuple #[pq x,zz])/\Keep F W w':=fun W base d F h H=>ZBj (w:=W) (base:=base) (d:=d) B (F:=F) k l rfl h H;obtain⟨n,J⟩:=ex (198+4*pgs B);rw[<- J] at C E G I;have a:=Blk.new w 28 #[ii B,ii 8,ii 24];have c:kz w (w.alloc (.cells #[ii B,ii 8,ii 24] 28)):=kq.alloc _;obtain⟨o,q,r⟩:=XD a;unfold Je at *;have a4:=ZB J;clear J a3;go_enter func11,ntmps11
 go_wp2_with (first
  | (go_at_call 68
     refine(C _).mono ?_;clear C;rintro e w1 ⟨rfl,M⟩;replace c:=c.tO M
     replace a:=a.kO M)
  | (go_at_call 67
     refine(E _).mono ?_;clear E;rintro e w2 ⟨d,F,m,Fm,b1,rfl,N,f,O,ah,P,Q,ai⟩;have a5:=c.size;have aj:=a.lt;have R:=N.ge;have a6:=f.lt;replace c:=c.tO O;replace a:=a.kO O;clear o q r;obtain⟨o,q,r⟩:=XD a
     have S:=G w2 w.heap.size d F (N.rebase a5) c.size)
  | (go_at_call 69
     refine S.mono ?_;clear S G;rintro e w3 ⟨s,rfl,T,D,K,⟨a7,a8⟩,u,a9⟩;have aa:=a.keep u (fun f=>by have:=R _ f;omega);clear o q r;obtain⟨o,q,r⟩:=XD aa
     have U:=I w3 _ m Fm (f.keepLt u P) (by have:=u.size;omega))
  | (go_at_call 70
     refine U.mono ?_;clear U I;rintro e b ⟨x,rfl,L⟩
     have ab:=K.keep L (fun y i V=>by
      rcases a9 y i with X | X
      . have:=P y X;have:=Q y V;omega
      have:=a6 y V;omega)
     have ak:∀ y∈T,w.heap.size<=y:=K.ge;have ac:=K.lt;have al:=L.size;have Y:kz w b:=(c.trans u (fun y i=>.inr (by have:=R y i;omega))).trans L (fun y i=>.inr (by have:=Q y i;omega));have ad:kz b (b.alloc (.cells #[pq d,pq m,pq s,pq x] 41)):=kq.alloc _;have ae:=Blk.new b 41 #[pq d,pq m,pq s,pq x];have af:=ab.kO ad;obtain⟨g,t,p,v,Fd,Ft,Fw,z,L0,L1,A,ag⟩:=af;have a0:=fun W (j:kz (b.alloc (.cells #[pq d,pq m,pq s,pq x] 41)) W)=>GeomS_is W _ s d g t p v Fd Ft Fw z L0 L1 B _ (A.kO j);have a1:=fun W (j:kz (b.alloc (.cells #[pq d,pq m,pq s,pq x] 41)) W)=>TableS_is W _ s d g t p v Fd Ft Fw z L0 L1 B _ (A.kO j)
     have a2:=fun W (j:kz (b.alloc (.cells #[pq d,pq m,pq s,pq x] 41)) W)=>ImageS_is W _ s d g t p v Fd Ft Fw z L0 L1 B _ (A.kO j))
  | (go_at_call 17
     refine(a0 _ kq).mono ?_;clear a0
     rintro e w' ⟨rfl,rfl⟩)
  | (go_at_call 14
     refine(a1 _ kq).mono ?_;clear a1
     rintro e w' ⟨rfl,rfl⟩)
  | (go_at_call 71
     refine(a2 _ kq).mono ?_;clear a2;rintro e w' ⟨rfl,rfl⟩))
 go_ret2;exact⟨b.heap.size,d,s,T,D,rfl,⟨m,x,ae,⟨g,t,p,v,Fd,Ft,Fw,z,L0,L1,A,ag⟩,a7,fun f=>by have:=ac _ f;omega,Y.size,Y.alloc _⟩,by rw[<- ZA a4];exact a8⟩
theorem VAl (w:World) (B:Nat) (a:1<=B) (b:B<=64):Calls prog 11 #[.agg #[ii B,ii 8,ii 24]] w fun e w'=>∃ t d s F D,e=.returned (.tuple #[pq t,.bool true])/\KAV w w' B t d s F D:=
 (Yw w B a b).mono fun e w' ⟨t,d,s,F,D,c,h,_⟩=>⟨t,d,s,F,D,c,h⟩
structure LawSt (w0 w:World) (B t r s d x:Nat) (Fs Fx:List Nat) (R:RS):Prop where
 two:∃ mm xx:Nat,Blk w t 41 #[pq d,pq mm,pq s,pq xx]
 rep:ReplicaIs w w0.heap.size r s d x Fs Fx B R
 tn:t∉YJ r Fs Fx
 tb:w0.heap.size<=t
 kept:kz w0 w
namespace LawSt
variable {w0 w w':World} {B t r s d x:Nat} {Fs Fx:List Nat} {R:RS}
theorem kO (h:LawSt w0 w B t r s d x Fs Fx R) (a:kz w w'):LawSt w0 w' B t r s d x Fs Fx R:=
 ⟨by obtain⟨b,c,e⟩:=h.two;exact⟨b,c,e.kO a⟩,h.rep.kO a,h.tn,h.tb,h.kept.tO a⟩
theorem cells (h:LawSt w0 w B t r s d x Fs Fx R):cl w t (pq d)/\cl w (aq t 2) (pq s):=by
 obtain⟨b,c,a⟩:=h.two;exact⟨uq (a.cell 0),uq (a.cell 2)⟩
theorem lt (h:LawSt w0 w B t r s d x Fs Fx R):t<w.heap.size:=by
 obtain⟨b,c,a⟩:=h.two;exact a.lt
theorem turn (h:LawSt w0 w B t r s d x Fs Fx R) {a b:List Nat} (e:ReplicaIs w' w0.heap.size r s d x a b B R') (c:Keep (YJ r Fs Fx) w w') (f:Grow w (YJ r Fs Fx) (YJ r a b)):LawSt w0 w' B t r s d x a b R':=by
 have n:=h.lt;have g:=h.rep.ge;refine⟨?_,e,fun i=>(f t i).elim h.tn Z,h.tb,h.kept.trans c (fun y j=>.inr (g y j))⟩;obtain⟨k,l,m⟩:=h.two;exact⟨k,l,m.keep c h.tn⟩
end LawSt
def QBR (w0 w:World) (B t r s d x:Nat) (Fs Fx:List Nat) (k j:Nat) (R1:PSlot->RS) (o:POp) (e:Ending) (w':World):Prop:=
 ∃ (v:Value) (Fs' Fx':List Nat) (R':RS) (er:Nat),LawSt w0 w' B t r s d x Fs' Fx' R'/\Ran B (R1 ⟨v,o,true⟩) R' er/\Good B R'.S (k+QF (R1 ⟨v,o,true⟩).sl) (j+2*QF (R1 ⟨v,o,true⟩).sl)/\(∀ q∈R'.sl,q.is=true->KS B q.o) /\
   Keep (YJ r Fs Fx) w w'/\Grow w (YJ r Fs Fx) (YJ r Fs' Fx') /\
   ((er=0/\∃ UA uc,e=.returned (.tuple #[.slice UA 25 uc,zz])/\AckRow w w' R'.S.st UA uc)\/(er=1/\e=.returned (.tuple #[zn,ii 1])))
theorem LawSt.take {w0 w:World} {B t r s d x:Nat} {Fs Fx:List Nat} {R:RS} (h:LawSt w0 w B t r s d x Fs Fx R) (i:R.S.st.view=1) (k b c e m a:Nat) (xs:List UInt8) (A:Option Addr) (cp:Nat)
 (p:Rd w A (25+m) (bys (YG k 1 a b c e 0 xs))) (y:OpMay k b c e m) (z:xs.length=m) (C:b+max c 1<=B\/k=3) (D:1<=a/\a<=2147483647)
 (g j:Nat) (E:Good B R.S g j) (F:g+QF R.sl<=49) (G:j<=10000) (H:R.next<=1000000) (I:∀ q∈R.sl,q.is=true->KS B q.o) (J:R.next<=a) (K:a<R.next+R.sl.length) (L:(R.sl.getD (a % R.sl.length) PSlot.none_).is=false) (M:KS B ⟨k,b,c,e,xs⟩) :
 Calls prog 45 #[pq r,.slice A (25+m) cp] w (QBR w0 w B t r s d x Fs Fx g j (fun q=>⟨R.S,R.next,R.sl.set (a % R.sl.length) q⟩) ⟨k,b,c,e,xs⟩):=by
 have Y:((1:Nat):Int)=(R.S.st.view:Nat):=by rw[i]
 refine(KBN w w0.heap.size r s d x Fs Fx B R h.rep h.kept.size k b c e m a xs A cp (by rw[i];exact p) y z C D g j E F G H I J K L M).mono ?_;rintro en w' ⟨v,N,O,R',P,Q,S,T,U,l,n,f⟩;refine⟨v,N,O,R',P,h.turn Q l n,S,T,U,l,n,?_⟩;rcases f with⟨f,u,V,o⟩ | f
 . obtain⟨W,X,rfl,_⟩:=XB o
   exact .inl ⟨f,W,X,V,o⟩
 exact .inr f
theorem LawSt.step {w0 w:World} {B t r s d x:Nat} {Fs Fx:List Nat} {S:PS} {i a ep:Nat} (h:LawSt w0 w B t r s d x Fs Fx ⟨S,i+1,QD a⟩) (u:1<=a) (f:S.st.view=1/\S.st.seq=i/\S.st.epoch=ep) (y:Good B S i (2*i)) (hi:i<=40)
 (k b c e n:Nat) (xs:List UInt8) (A:Option Addr) (cp:Nat) (H:Rd w A (25+n) (bys (YG k 1 (i+1) b c e 0 xs))) (I:OpMay k b c e n) (J:xs.length=n) (K:b+max c 1<=B\/k=3) (z:KS B ⟨k,b,c,e,xs⟩) (L:k=3->e=ep+1) :
 Calls prog 45 #[pq r,.slice A (25+n) cp] w fun C w'=>∃ (j:Option Addr) (l:Nat) (m o:List Nat) (S':PS),C=.returned (.tuple #[.slice j 25 l,zz])/\AckRow w w' S'.st j l/\LawSt w0 w' B t r s d x m o ⟨S',i+1+1,QD a⟩ /\
  (S'.st.view=1/\S'.st.seq=i+1/\S'.st.epoch=XBn k ep)/\(k=3->S'.st.done=i+1)/\Good B S' (i+1) (2*(i+1))/\Does B S ⟨k,b,c,e,xs⟩ S'/\Keep (YJ r Fs Fx) w w'/\Grow w (YJ r Fs Fx) (YJ r m o):=by
 refine(h.take f.1 k b c e n (i+1) xs A cp H I J K Z i (2*i) y (by rw[JX];omega) Z (show i+1<=1000000 from Z) (Yp a B) sq (by simp;omega) (KU _ _) z).mono ?_;rintro C w' ⟨v,m,o,R',er,M,D,E,h4,N,O,F⟩;simp only[length_emptyW] at D E;have P:(i+1) % a<a:=Bk _ u;rw[QAA P _ rfl] at E;rcases XBG u (q:=⟨v,⟨k,b,c,e,xs⟩,true⟩) rfl D with⟨p,G,_,_⟩ | ⟨S',p,G,Q⟩
 . exfalso
   apply G;have R:k=3:=by simp only at p;omega
   have:=L R;rw[f.2.2];simp only;omega
 obtain⟨T,g⟩:=p.good z y Z Z
 obtain⟨U,d2,V,W,X,d6⟩:=XBV (st:=S.st) (k:=k) (b:=b) (c:=c) (e:=e) (xs:=xs);replace g:S'.st=Ji S.st ⟨k,b,c,e,xs⟩:=g;subst Q;rcases F with⟨_,j,l,Y,h9⟩ | ⟨F,_⟩
 . exact⟨j,l,m,o,S',Y,h9,M,⟨by rw[g,U,f.1],by rw[g,V,f.2.1],by rw[g,W,f.2.2]⟩,fun h=>by rw[g,X h,f.2.1],T,p,N,O⟩
 omega
theorem XAx {B:Nat} {R:RS} {e:Nat} (h:Ran B R R' e):1<=R.sl.length->e=0->R'.next+QF R'.sl=R.next+QF R.sl/\R'.sl.length=R.sl.length:=by
 induction h with
 | stop _=>exact fun _ _=>⟨rfl,rfl⟩
 | bad _ _ _=>intro _ h;cases h
 | @step R R' S' e h1 h2 h3 ih=>
   intro a d;have hi:R.next % R.sl.length<R.sl.length:=Bk _ a
   have f:(R.sl[R.next % R.sl.length]).is=true:=by
    have:R.cur=R.sl[R.next % R.sl.length]:=by unfold RS.cur;rw[AA,AC hi];rfl
    rw[<- this];exact h1
   have g:=Yu hi f;have b:R.cut.length=R.sl.length:=by simp[RS.cut]
   obtain⟨i,c⟩:=ih (by simp only;rw[b];exact a) d;simp only at i c;have j:QF R.cut+1=QF R.sl:=g;exact⟨Z,by rw[c,b]⟩
theorem count_set:∀ {l:List Bool} {j:Nat},j<l.length->l.getD j false=false->(l.set j true).countP id=l.countP id+1
 | [],_,h,_=>by simp at h
 | a :: l,0,_,h=>by
   simp at h;subst h
   simp[Be]
 | a :: l,j+1,h,hf=>by
   have:=count_set (l:=l) (j:=j) (uq h) (uq hf);simp only[Aj,Be,this];omega
structure FRel (B len n nx:Nat) (ops:Nat->POp) (R:RS) (th:List Bool):Prop where
 next:R.next=nx+1
 sl:R.sl.length=n
 win:WinRel ops len nx th R.sl
 stm:Stm B ops nx R.S
 view:R.S.st.view=1
 stop:th.getD nx false=false
 cnt:th.countP id=nx+QF R.sl
 ops:∀ q∈R.sl,q.is=true->KS B q.o
theorem Jt (n i:Nat):(List.replicate n false).getD i false=false:=by
 simp only[AA,Au]
 split <;> rfl
theorem FRel.new {B len n:Nat} {ops:Nat->POp} {S:PS} (c:1<=n) (d:Stm B ops 0 S) (e:S.st.view=1):FRel B len n 0 ops ⟨S,0+1,QD n⟩ (List.replicate (len+1) false):=by
 refine⟨rfl,sq,⟨uq c,sq,Jt _ _,fun j a=>Z,fun j a=>?_,fun i hi=>?_,AP _⟩,d,e,Jt _ _,?_,Yp n B⟩
 . rw[Jt] at a;cases a
 . have b:=KU n ((0+i+1) % (QD n).length)
   exact⟨by rw[b,Jt],fun h=>by rw[b] at h;cases h⟩
 rw[JX,C4];simp
namespace FRel
variable {B len n nx:Nat} {ops:Nat->POp} {R:RS} {th:List Bool}
theorem ge (h:FRel B len n nx ops R th) (b:th.getD j false=false):nx<=j:=by
 rcases BG j nx with a | a
 . rw[h.win.lo j a] at b;cases b
 exact a
theorem slot (h:FRel B len n nx ops R th) (a:nx<=j) (b:j<nx+n):(R.sl.getD ((j+1) % R.sl.length) PSlot.none_).is=th.getD j false:=by
 have:=(h.win.sl (j-nx) (by rw[h.sl];omega)).1
 rwa [show nx+(j-nx)=j from Z] at this
theorem put (h:FRel B len n nx ops R th) (l:KBZ B ops len) (F:len<=40) (m:j<len) (a:th.getD j false=false) (b:j<nx+n) {v:Value} {c:Nat} (d:Ran B ⟨R.S,R.next,R.sl.set ((j+1) % R.sl.length) ⟨v,ops j,true⟩⟩ R' c) (o:∀ q∈R'.sl,q.is=true->KS B q.o) :
 c=0/\∃ n',FRel B len n n' ops R' (th.set j true)/\nx<=n'/\∀ q,nx<=q->q<n'->(th.set j true).getD q false=true:=by
 have e:=h.ge a;have f:=h.sl;have g:=h.win.pos;have p:=h.win.put m e (by rw[f];exact b) v;have r:j<th.length:=by rw[h.win.thl];omega
 have s:(j+1) % R.sl.length<R.sl.length:=Bk _ g;obtain⟨i,n',t,u,w,y,z,A,C,D,G⟩:=XBB l Z d nx h.next p h.stm;obtain⟨k,H⟩:=XAx d (uq g) i;have E:QF (R.sl.set ((j+1) % R.sl.length) ⟨v,ops j,true⟩)=QF R.sl+1:=Vj s (by rw[h.slot e b,a]) _ rfl;simp only at k;rw[E] at k;refine⟨i,n',⟨t,by rw[u];simpa using f,w,z,by rw[D];exact h.view,y,?_,o⟩,A,C⟩;rw[count_set r a,h.cnt];have:=h.next;omega