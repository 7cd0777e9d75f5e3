/- Lemmas of the proof, with their conditions. -/
import Derived.Test.YtfedaknhecbehaaGreatL09
import Derived.Test.YtfedaknhecbehaaGreatL23
import Derived.Test.YtfedaknhecbehaaGreatL12
namespace Go.Proofs.YtfedaknhecbehaaGreat
open Tryz Go.RowKit
variable {A BA OA:Option Addr} {n g B:Nat} {w:World} {us:List (Nat×Nat)}
set_option linter.all false
set_option maxHeartbeats 4000000
set_option maxRecDepth 50000
theorem JBI (z:Nat) (a:z<=1) (w:World):cq 437 #[z] w (.bool false):=by
 obtain rfl | rfl:z=0\/z=1:=Z
 all_goals
  go_enter func437,ntmps437
  go_wp2
  go_ret;exact⟨rfl,rfl⟩
theorem QAa (c:Nat) (zs:List Nat) (a:Rd w A n (YL zs)) (h:∀ z∈zs,z<=1) (m:n<=1000000) :
 cq 439 #[.slice A n c,.func (.func 437) #[] #[]] w (ii (-1)):=by
 have d:zs.length=n:=uq a.1;have j:=JB d;clear d;go_enter func439,ntmps439;go_wp2_with fail;go_loopw [5,8] (fun _ i wr=>∃ k:Nat,k<=n/\i=.int .i64 k/\w=wr) (fun _ i _=>n-(intOf i).toNat)
 case atStart=>exact⟨0,AS _,rfl,rfl⟩
 obtain⟨k,p,rfl,rfl⟩:=hrel;by_cases e:k<n
 . have f:k<zs.length:=by rw[JA j];exact e
   have r:((k:Nat):Int)<(n:Nat):=Z;obtain⟨b,o,u,rfl,g,s,t⟩:=a.at_ e;simp only[YL,Aa,AC f,Ao,Ae] at g;subst g;have l:=JBI _ (h _ (AQ f)) w;generalize zs[k]=z at *;go_wp2_with (apply mq l);go_roundw;case rel=>exact⟨k+1,Z,by go_num,trivial⟩
   case measure=>simp[intOf];omega
 obtain rfl:n=k:=Z
 go_wp2
 go_ret;exact⟨rfl,rfl⟩
theorem YAF (c:Nat) (zs:List Nat) (a:Rd w A n (YL zs)) (h:∀ z∈zs,z<=1) (b:n<=1000000) :
 cq 395 #[.slice A n c,n] w (.bool true):=by
 have d:=QAa c zs a h b
 have e:cq 404 #[.slice A n c,.func (.func 437) #[] #[]] w (.bool false):=by
  go_enter func404,ntmps404;go_wp2_with (apply mq d);go_ret;exact⟨rfl,rfl⟩
 go_enter func395,ntmps395;go_wp2_with (apply mq e);go_ret;exact⟨rfl,rfl⟩
structure PReg where
 gen:Nat
 view:Nat
 mode:Nat
 epoch:Nat
 seq:Nat
 done:Nat
 pos:PPos
def PReg.May (r:PReg):Prop:=(1<=r.gen/\r.gen<=2147483647)/\(1<=r.view/\r.view<=2147483647)/\(r.mode=1\/r.mode=2)/\r.epoch<=2147483647/\r.seq<=2147483647/\r.done<=r.seq/\r.pos.May
def PReg.cs (r:PReg) (B O S:Value):List Value:=
 [.int .i64 r.gen,.int .i64 r.view,.int .i64 r.mode,.int .i64 r.epoch,.int .i64 r.seq,.int .i64 r.done,.int .i64 r.pos.seg,.int .i64 r.pos.off,.int .i64 r.pos.lsn,.int .i64 r.pos.prev,.int .i64 r.pos.mount,B,O,S]
theorem ZD {t:TypeId} {a b c d e f i j k l m n o p:Value} (h:Blk w g t #[a,b,c,d,e,f,i,j,k,l,m,n,o,p]) :
 cl w g a/\cl w (aq g 1) b/\cl w (aq g 2) c/\cl w (aq g 3) d/\cl w (aq g 4) e/\cl w (aq g 5) f/\cl w (aq g 6) i/\cl w (aq g 7) j /\
 cl w (aq g 8) k/\cl w (aq g 9) l/\cl w (aq g 10) m/\cl w (aq g 11) n/\cl w (aq g 12) o/\cl w (aq g 13) p:=
 ⟨uq (h.cell 0),uq (h.cell 1),uq (h.cell 2),uq (h.cell 3),uq (h.cell 4),uq (h.cell 5),uq (h.cell 6),uq (h.cell 7),uq (h.cell 8),uq (h.cell 9),uq (h.cell 10),uq (h.cell 11),uq (h.cell 12),uq (h.cell 13)⟩
theorem VV (n lo hi:Int) (w:World) (h:lo<=n/\n<=hi):cq 396 #[ii n,ii lo,ii hi] w (.bool true):=by
 obtain⟨a,b⟩:=h;go_enter func396,ntmps396
 go_wp2
 go_ret;exact⟨rfl,rfl⟩
theorem JAO {r:PReg} (h:r.May) (BA:Option Addr) (g i:Nat) (OA:Option Addr) (j k:Nat) (l:Option Addr) (m n:Nat) (w:World) :
 cr 394 #[.agg (r.cs (.slice BA g i) (.slice OA j k) (.slice l m n)).toArray] w (.bool true):=by
 obtain⟨o,view,mode,p,a,s,u,v,y,z,A⟩:=r;obtain⟨B,C,t,D,E,F,G⟩:=h;simp only[PReg.cs] at *;have b:=fun W=>VV o 1 2147483647 W ⟨Z,Z⟩;have c:=fun W=>VV view 1 2147483647 W ⟨Z,Z⟩;have d:=fun W=>VV p 0 2147483647 W ⟨Z,Z⟩;have e:=fun W=>VV a 0 2147483647 W ⟨Z,Z⟩;have f:=fun W=>VV s 0 a W ⟨Z,Z⟩;rcases t with rfl | rfl
 all_goals
  go_enter func394,ntmps394;go_wp2_with (first | (apply mq (b _);clear b) | (apply mq (c _);clear c) | (apply mq (d _);clear d) | (apply mq (e _);clear e) | (apply mq (f _);clear f));go_ret;exact⟨rfl,kq.alloc _⟩
def VT (us:List (Nat×Nat)) (s:Nat):Prop:=us.length=8/\(∀ u∈us,u.1<=2/\u.2<=2147483647)/\∀ k (h:k<us.length),(us[k].1=1↔k=s)
theorem JAo (p:GeomAt w g B) {r:PReg} (h:r.May) (l:Nat) (G:List Nat) (m:Nat) (H:List Nat) (hb:Rd w BA (pgs B) (YL G)) (ho:Rd w OA (pgs B) (YL H)) (a0:∀ z∈G,z<=1) (a1:∀ z∈H,z<=1)
 (s t:Nat) (I:Rd w (some s) (8*2) (us.flatMap Kk)) (ag:VT us r.pos.seg) :
 cr 340 #[pq g,.agg (r.cs (.slice BA (pgs B) l) (.slice OA (pgs B) m) (.slice (some s) 8 t)).toArray] w (.bool true):=by
 have ap:=(JD p.pos p.few).2;have a2:=fun W=>JAO h BA (pgs B) l OA (pgs B) m (some s) 8 t W;have a3:=fun W (c:kz w W)=>VAe (p.kO c) h.2.2.2.2.2.2;have J:=fun W (c:kz w W)=>PagesG_is W g B (p.kO c);have a4:=fun W (c:kz w W)=>ConfigG_is W g B (p.kO c);have a5:=fun W (c:kz w W)=>YAF l G (hb.keep c) a0 Z;have a6:=fun W (c:kz w W)=>YAF m H (ho.keep c) a1 Z;obtain⟨a7,ah,ai⟩:=ag;have aj:=JB a7;have ar:r.pos.seg<=7:=h.2.2.2.2.2.2.1;clear a7 h hb ho a0 a1;obtain⟨L,view,mode,M,N,O,f,Q,R,S,T⟩:=r;simp only[PReg.cs,PPos.cs] at *;generalize pgs B=P at *;have b:=Blk.new w 240 #[ii L,ii view,ii mode,ii M,ii N,ii O,ii f,ii Q,ii R,ii S,ii T,.slice BA P l,.slice OA P m,.slice (some s) 8 t];obtain⟨w1,U⟩:=ex (w.alloc (.cells #[ii L,ii view,ii mode,ii M,ii N,ii O,ii f,ii Q,ii R,ii S,ii T,.slice BA P l,.slice OA P m,.slice (some s) 8 t] 240));have d:kz w w1:=by rw[U];exact kq.alloc _
 go_enter func340,ntmps340;go_wp2_with fail;rw[<- U] at b ⊢;clear U;refine ZT (fun w'=>cl w' w.heap.size (ii L)/\cl w' (aq w.heap.size 1) (ii view)/\cl w' (aq w.heap.size 2) (ii mode)/\cl w' (aq w.heap.size 3) (ii M)/\cl w' (aq w.heap.size 4) (ii N)/\cl w' (aq w.heap.size 5) (ii O)/\cl w' (aq w.heap.size 6) (ii f)/\cl w' (aq w.heap.size 7) (ii Q)/\cl w' (aq w.heap.size 8) (ii R)/\cl w' (aq w.heap.size 9) (ii S)/\cl w' (aq w.heap.size 10) (ii T)/\cl w' (aq w.heap.size 11) (.slice BA P l)/\cl w' (aq w.heap.size 12) (.slice OA P m)/\cl w' (aq w.heap.size 13) (.slice (some s) 8 t)) 37 [[0,1,2,3],[4,5,6,7,8,9,10],[11,12,13,14,15,16,17],[18],[19,20,21,22,23,24,25],[26],[27,28,29,30,31,32,33,34],[35,36]] (ZD b.drew) ?_;simp only[PI];iterate 4 refine wG ?_
 refine YB rq (fun K a=>?_);go_wp2_with (refine(a2 _).mono ?_;rintro e w2 ⟨rfl,a8⟩);have A:=(Keep.refl [] w1).drew.tO a8;refine a _ _ (ZD (b.kO A)) ?_;iterate 6 refine wG ?_
 refine YB rq (fun K a=>?_);go_wp2_with (refine(a3 _ (d.tO A)).mono ?_;rintro e w3 ⟨rfl,a9⟩);have C:=A.tO a9;refine a _ _ (ZD (b.kO C)) ?_;iterate 6 refine wG ?_
 refine YB rq (fun K a=>?_);go_wp2_with (refine(J _ (d.tO C)).mono ?_;rintro e w4 ⟨rfl,aa⟩);have n:=C.tO aa;refine a _ _ (ZD (b.kO n)) ?_
 try simp only[Act.put,PU]
 refine YB rq (fun K a=>?_);go_wp2_with (apply mq (a5 _ (d.tO n)));refine a _ _ (ZD (b.kO n)) ?_;iterate 6 refine wG ?_
 refine YB rq (fun K a=>?_);go_wp2_with (refine(J _ (d.tO n)).mono ?_;rintro e w6 ⟨rfl,ab⟩);have o:=n.tO ab;refine a _ _ (ZD (b.kO o)) ?_
 try simp only[Act.put,PU]
 refine YB rq (fun K a=>?_);go_wp2_with (apply mq (a6 _ (d.tO o)));refine a _ _ (ZD (b.kO o)) ?_;iterate 7 refine wG ?_
 refine YB rq (fun K a=>?_);go_wp2_with (refine(a4 _ (d.tO o)).mono ?_;rintro e w8 ⟨rfl,ac⟩);have D:=o.tO ac;have ak:=fun W=>QE (P:=prog) underlying28 1 rfl isAgg3 #[ii B,ii 8,ii 24] rfl W;refine a _ _ (ZD (b.kO D)) ?_;iterate 1 refine wG ?_
 refine KB ?_;have V:=b.kO D;have ad:=(ZD V).2.2.2.2.2.2.2.2.2.2.2.2.2;have al:=V.lt;go_wp2_with fail;clear ad al;go_loopw [5,6,49] (fun _ _ i wr=>∃ k:Nat,k<=8/\i=.int .i64 k/\kz w8 wr) (fun _ _ i _=>8-(intOf i).toNat)
 case atStart=>exact⟨0,AS _,rfl,kq⟩
 clear a2 a3 J a4 a5 a6 ak A C n o a8 a9 aa ab ac b;obtain⟨k,c,rfl,a⟩:=hrel;have ae:=V.kO a;obtain⟨-,-,-,-,-,-,c6,-,-,-,-,-,-,ad⟩:=ZD ae;have au:=ae.lt;by_cases am:k<8
 . have v:k<us.length:=by rw[JA aj];exact am
   have av:((k:Nat):Int)<8:=Z;have X:=(d.tO D).tO a;have aw:s<wr.heap.size:=(KI YJ (I.keep X) v (j:=0) Z).1;have d0:=(KI YJ (I.keep X) v (j:=0) Z).2;have d1:=(KI YJ (I.keep X) v (j:=1) Z).2;obtain⟨u1,u2⟩:=ah _ (AQ v);have Y:=ai k v;generalize us[k]=u at *;obtain⟨x,y⟩:=u;simp only[Kk,Bi,Bo,BV] at d0 d1 u1 u2 Y;have E:=fun W=>VV x 0 2 W ⟨Z,Z⟩;have F:=fun W=>VV y 0 2147483647 W ⟨Z,Z⟩;have af:kz w8 (wr.alloc (.cells #[ii x,ii y] 166)):=a.alloc _;by_cases hx:x=1
   . obtain rfl:=Y.1 hx
     subst hx;go_wp2_with (first | (apply mq (E _);clear E) | (apply mq (F _);clear F));go_roundw;case rel=>exact⟨k+1,Z,by go_num,af⟩
     case measure=>simp[intOf];omega
   have ax:¬ k=f:=fun e=>hx (Y.2 e);have an:¬ ((x:Nat):Int)=1:=Z;have ao:¬ ((k:Nat):Int)=(f:Nat):=Z;have b1:(((x:Nat):Int) == 1)=false:=uq an;have b2:(((k:Nat):Int) == ((f:Nat):Int))=false:=uq ao;have b3:(!(((x:Nat):Int) == 1) == (((k:Nat):Int) == ((f:Nat):Int)))=false:=by rw[b1,b2];rfl
   go_wp2_with (first | (apply mq (E _);clear E) | (apply mq (F _);clear F));go_roundw;case rel=>exact⟨k+1,Z,by go_num,af⟩
   case measure=>simp[intOf];omega
 obtain rfl:8=k:=Z
 go_wp2
 go_ret;exact⟨rfl,(d.tO D).tO a⟩
theorem ZBr (z:Int):∃ m:Nat,m<256 ^ 4/\bits BinOp.and IntKind.i64 z 4294967295=(m:Nat):=by
 refine⟨(BitVec.ofInt 64 z &&& BitVec.ofInt 64 4294967295).toNat,?_,?_⟩
 . rw[CW]
   have a:(BitVec.ofInt 64 4294967295).toNat=4294967295:=by decide
   rw[a];have:=Nat.and_le_right (n:=(BitVec.ofInt 64 z).toNat) (m:=4294967295);omega
 show IntKind.i64.wrap ((BitVec.ofInt 64 z &&& BitVec.ofInt 64 4294967295).toNat:Int)=_;have a:(BitVec.ofInt 64 4294967295).toNat=4294967295:=by decide
 have:(BitVec.ofInt 64 z &&& BitVec.ofInt 64 4294967295).toNat<=4294967295:=by
  rw[CW,a];exact Nat.and_le_right
 rw[AK];omega
theorem VBN (c:Nat) (zs:List Int) (g:Rd w A n (VM zs)) (y:∀ z∈zs,-1<=z/\z<4096) (O:n<=15) :
 Calls prog 221 #[.slice A n c] w fun e w'=>∃ u bs,e=.returned (.tuple #[u,zz])/\bs.length=64/\w'.ownsRow w.heap.size 5 1 u 64 (bys bs)/\kz w w':=by
 have h:zs.length=n:=by simpa [VM] using g.1
 have B:=JB h;clear h;have P:((n:Nat):Int)<=15:=Z;have C:=ZBt 64 Z w;go_enter func221,ntmps221;go_wp2_with (apply C.mono;rintro e w1 ⟨r,D,rfl,d,a⟩);go_loopw [6,13] (fun _ i wr=>∃ k:Nat,k<=n/\i=.int .i64 k/\RowX wr w.heap.size r D 64 (4*k)/\kz w wr) (fun _ i _=>n-(intOf i).toNat)
 case atStart=>exact⟨0,AS _,rfl,d,a⟩
 clear d a;obtain⟨k,Q,rfl,d,a⟩:=hrel;by_cases j:k<n
 . have l:k<zs.length:=by rw[JA B];exact j
   have R:((k:Nat):Int)<(n:Nat):=Z;obtain⟨b,o,u,rfl,f,S,p⟩:=(g.keep a).at_ j;simp only[VM,Aa,AC l,Ao,Ae] at f;subst f;obtain⟨T,U⟩:=y _ (AQ l);generalize zs[k]=z at *;replace p:cl wr (aq b (o+k)) (ii z):=p;obtain⟨m,s,V⟩:=ZBr z;have t:=JBt (k:=4) d Z [m] (uq s) sq (by simp;omega) #[ii m] rfl 1 rfl;clear s
   go_wp2_with (
    (refine t.mono ?_)
    clear t;rintro e E ⟨rfl,F,G⟩)
   go_roundw;case rel=>exact⟨k+1,Z,by go_num,F,a.trans G (fun x f=>.inr (d.fresh x f))⟩
   case measure=>simp[intOf];omega
 obtain rfl:n=k:=Z;have H:=XBn d;go_wp2_with (apply H.mono;rintro e W ⟨u,bs,rfl,I,v,J⟩);have K:=JBr I v Z Z;go_wp2_with (apply K.mono;rintro e E ⟨cs,rfl,L,M,N⟩);go_ret2;exact⟨u,cs,rfl,L,ZC M a.size,(a.tO J).trans N (fun x f=>.inr (AA a.size (own_mem v f).1))⟩
def YX (zs:List Nat):Nat->Nat
 | 0=>0
 | k+1=>YX zs k+zs.getD k 0*2 ^ k
theorem Zs (zs:List Nat) (h:∀ z∈zs,z<=1):∀ k,YX zs k<2 ^ k
 | 0=>by simp[YX]
 | k+1=>by
   have c:=Zs zs h k
   have b:zs.getD k 0<=1:=by
    rw[AB];rcases BP k zs.length with a | a
    . rw[AC a];exact h _ (AQ a)
    rw[BF a];exact AS _
   have d:zs.getD k 0*2 ^ k<=1*2 ^ k:=A3 _ b;simp only[YX,CT];omega
theorem JBp {q z k:Nat} (a:q<2 ^ k):q ||| z*2 ^ k=q+z*2 ^ k:=by
 have:=Nat.two_pow_add_eq_or_of_lt a z;rw[Nat.or_comm,Bq,<- this];omega
theorem KAf (c:Nat) (zs:List Nat) (d:Rd w A n (YL zs)) (h:∀ z∈zs,z<=1) (H:n<=8) :
 cq 341 #[.slice A n c] w (YX zs n:Nat):=by
 have f:zs.length=n:=uq d.1;have B:=JB f;clear f;have g:=Zs zs h;go_enter func341,ntmps341;go_wp2_with fail;go_loopw [2,3,4,7] (fun s _ _ i wr=>∃ k:Nat,k<=n/\i=.int .i64 k/\s=.int .i64 (YX zs k:Nat)/\w=wr) (fun _ _ _ i _=>n-(intOf i).toNat)
 case atStart=>exact⟨0,AS _,rfl,rfl,rfl⟩
 obtain⟨k,I,rfl,rfl,rfl⟩:=hrel;by_cases j:k<n
 . have a:k<zs.length:=by rw[JA B];exact j
   have J:((k:Nat):Int)<(n:Nat):=Z;obtain⟨b,o,u,rfl,l,K,L⟩:=d.at_ j;simp only[YL,Aa,AC a,Ao,Ae] at l;subst l;have C:=h _ (AQ a);have p:=g k
   have r:YX zs (k+1)=YX zs k+zs[k]*2 ^ k:=by
    simp only[YX];rw[AB,AC a];rfl
   have t:=JB r;clear r;generalize YX zs k=q at *;generalize zs[k]=z at *;have D:(2:Nat) ^ k<=256:=CG (n:=2) Z (show k<=8 from Z);have E:z*2 ^ k<=1*2 ^ k:=A3 _ C
   have v:wrap64 ((z:Nat)*2 ^ k:Int)=((z*2 ^ k:Nat):Int):=by
    have e:((z:Nat)*2 ^ k:Int)=((z*2 ^ k:Nat):Int):=sq;rw[e];have F:z*2 ^ k<=256:=Z;generalize z*2 ^ k=y at F ⊢;unfold wrap64;omega
   have M:bits BinOp.or IntKind.i64 (q:Nat) (wrap64 ((z:Nat)*2 ^ k:Int))=((q+z*2 ^ k:Nat):Int):=by
    rw[v,KBZ q (z*2 ^ k) Z Z,JBp p,AK];omega
   have G:Hid (q+z*2 ^ k=YX zs (k+1)):=JB (JA t).symm;generalize q+z*2 ^ k=m at *;clear v E D t p g;go_wp2_with fail;go_roundw;case rel=>exact⟨k+1,Z,by go_num,by rw[<- JA G],trivial⟩
   case measure=>simp[intOf];omega
 obtain rfl:n=k:=Z;go_wp2_with fail;go_ret;exact⟨rfl,rfl⟩
def Xi (u:Nat×Nat):List (Nat×Nat):=[(1,u.1),(4,u.2)]
def VBn (r:PReg) (p:Nat) (bz oz:List Nat) (us:List (Nat×Nat)):List (Nat×Nat):=
 [(1,75),(1,67),(4,r.gen),(4,r.view),(1,r.mode),(4,r.epoch),(4,r.seq),(4,r.done),(1,r.pos.seg),(1,r.pos.off),(4,r.pos.lsn),(4,r.pos.prev),(4,r.pos.mount),(1,YX bz p),(1,YX oz p)]++us.flatMap Xi
def VBm (r:PReg) (p:Nat) (bz oz:List Nat) (us:List (Nat×Nat)):List UInt8:=Vk 128 (fields (VBn r p bz oz us))
theorem QU (l m:List (Nat×Nat)):widths (l++m)=widths l+widths m:=by
 rw[<- length_fields,<- length_fields,<- length_fields,KG,AE]
theorem Qm (us:List (Nat×Nat)):widths (us.flatMap Xi)=5*us.length:=by
 induction us with
 | nil=>rfl
 | cons u us ih=>rw[At,QU,ih];simp[Xi,widths];omega
theorem VAB (r:PReg) (p:Nat) (a b:List Nat) (us:List (Nat×Nat)):widths (VBn r p a b us)=39+5*us.length:=by
 unfold VBn;rw[QU,Qm];simp[widths]
theorem Je (r:PReg) (p:Nat) (a b:List Nat) (h:us.length=8):(VBm r p a b us).length=128:=Va Z (by rw[length_fields,VAB];omega)
theorem KAX (hg:GeomAt w g B) {r:PReg} (h:r.May) (bc:Nat) (X:List Nat) (oc:Nat) (Y:List Nat) (hb:Rd w BA (pgs B) (YL X)) (ho:Rd w OA (pgs B) (YL Y)) (a6:∀ z∈X,z<=1) (a7:∀ z∈Y,z<=1)
 (s sc:Nat) (hs:Rd w (some s) (8*2) (us.flatMap Kk)) (b5:VT us r.pos.seg) :
 Calls prog 226 #[pq g,.agg (r.cs (.slice BA (pgs B) bc) (.slice OA (pgs B) oc) (.slice (some s) 8 sc)).toArray] w fun e w'=>∃ u,e=.returned (.tuple #[u,zz])/\w'.ownsRow w.heap.size 5 1 u 128 (bys (VBm r (pgs B) X Y us))/\kz w w':=by
 have cu:=(JD hg.pos hg.few).2;have b6:=fun W (t:kz w W)=>JAo (hg.kO t) h bc X oc Y (hb.keep t) (ho.keep t) a6 a7 s sc (hs.keep t) b5;have b7:=fun W (t:kz w W)=>RegionLenG_is W g B (hg.kO t);have ab:=fun W (t:kz w W)=>KAf bc X (hb.keep t) a6 Z;have ac:=fun W (t:kz w W)=>KAf oc Y (ho.keep t) a7 Z;obtain⟨b8,cb,-⟩:=b5;have ad:=JB b8;obtain⟨b1,cv,cw,cx,cy,cz,d2,d3,d4,d5,d6⟩:=h;have b9:=Zs X a6 (pgs B);have ba:=Zs Y a7 (pgs B);have h5:(2:Nat) ^ pgs B<=256:=CG (n:=2) Z (show pgs B<=8 from Z);clear b8 hb ho a6 a7;obtain⟨c,view,mode,d,f,l,o,p,v,A,C⟩:=r;simp only[PReg.cs,PPos.cs] at *;generalize pgs B=P at *;obtain⟨q1,ae⟩:=ex (YX X P);obtain⟨q2,af⟩:=ex (YX Y P);rw[<- ae] at ab b9;rw[<- af] at ac ba;have cc:=JB ae;have cd:=JB af;have d7:q1<256:=Z;have d8:q2<256:=Z;clear ae af b9 ba h5;have bb:=Blk.new w 240 #[ii c,ii view,ii mode,ii d,ii f,ii l,ii o,ii p,ii v,ii A,ii C,.slice BA P bc,.slice OA P oc,.slice (some s) 8 sc];obtain⟨w1,a8⟩:=ex (w.alloc (.cells #[ii c,ii view,ii mode,ii d,ii f,ii l,ii o,ii p,ii v,ii A,ii C,.slice BA P bc,.slice OA P oc,.slice (some s) 8 sc] 240));have ce:kz w w1:=by rw[a8];exact kq.alloc _
 rw[<- a8] at bb;go_enter func226,ntmps226
 go_wp2_with (
  (refine(b6 _ (kq.alloc _)).mono ?_)
  clear b6;rintro e E ⟨rfl,a3⟩;rw[<- a8] at a3;clear a8;have a9:=ce.tO a3;have a0:=bb.kO a3)
 go_wp2_with (
  (refine(b7 _ a9).mono ?_)
  rintro e w3 ⟨rfl,rfl⟩)
 have bd:=YBo 128 Z E
 go_wp2_with (
  (refine bd.mono ?_)
  clear bd;rintro e w4 ⟨rr,rv,rfl,a1,bf⟩)
 have a:=QAO (k:=1) a1 Z [75,67] sq sq (by simp[widths]) #[ii 75,ii 67] rfl 2 rfl
 go_wp2_with (
  (refine a.mono ?_)
  clear a;rintro e w5 ⟨rfl,bg,bh⟩
  have ag:RowZ w5 E.heap.size rr rv 128 (fields [(1,75),(1,67)]):=by
   have h:=bg;rw[Ad,ZO] at h;exact h
  clear bg;have ah:=bf.trans bh (fun x b=>.inr (a1.fresh x b));clear bh bf a1;have ai:=a0.kO ah;obtain⟨F,G,H,I,J,L,M,N,O,Q,R,S,T,D⟩:=ZD ai;have m:=ai.lt;clear ai)
 have a:=QAO (k:=4) ag Z [c,view] (by simp;omega) sq (by simp[widths]) #[ii c,ii view] rfl 2 rfl
 go_wp2_with (
  (refine a.mono ?_)
  clear a;rintro e w6 ⟨rfl,bi,bj⟩
  have aj:RowZ w6 E.heap.size rr rv 128 (fields [(1,75),(1,67),(4,c),(4,view)]):=by
   have h:=bi;rw[ZO,<- KG] at h;exact h
  clear bi;have ak:=ah.trans bj (fun x b=>.inr (ag.fresh x b));clear bj ah ag;clear F G H I J L M N O Q R S T D m;have al:=a0.kO ak;obtain⟨F,G,H,I,J,L,M,N,O,Q,R,S,T,D⟩:=ZD al;have m:=al.lt;clear al)
 have a:=QAO (k:=1) aj Z [mode] (by simp;omega) sq (by simp[widths]) #[ii mode] rfl 1 rfl
 go_wp2_with (
  (refine a.mono ?_)
  clear a;rintro e w7 ⟨rfl,bk,bl⟩
  have am:RowZ w7 E.heap.size rr rv 128 (fields [(1,75),(1,67),(4,c),(4,view),(1,mode)]):=by
   have h:=bk;rw[ZO,<- KG] at h;exact h
  clear bk;have an:=ak.trans bl (fun x b=>.inr (aj.fresh x b));clear bl ak aj;clear F G H I J L M N O Q R S T D m;have ao:=a0.kO an;obtain⟨F,G,H,I,J,L,M,N,O,Q,R,S,T,D⟩:=ZD ao;have m:=ao.lt;clear ao)
 have a:=QAO (k:=4) am Z [d,f,l] (by simp;omega) sq (by simp[widths]) #[ii d,ii f,ii l] rfl 3 rfl
 go_wp2_with (
  (refine a.mono ?_)
  clear a;rintro e w8 ⟨rfl,bm,bn⟩
  have ap:RowZ w8 E.heap.size rr rv 128 (fields [(1,75),(1,67),(4,c),(4,view),(1,mode),(4,d),(4,f),(4,l)]):=by
   have h:=bm;rw[ZO,<- KG] at h;exact h
  clear bm;have ar:=an.trans bn (fun x b=>.inr (am.fresh x b));clear bn an am;clear F G H I J L M N O Q R S T D m;have au:=a0.kO ar;obtain⟨F,G,H,I,J,L,M,N,O,Q,R,S,T,D⟩:=ZD au;have m:=au.lt;clear au)
 have a:=QAO (k:=1) ap Z [o,p] (by simp;omega) sq (by simp[widths]) #[ii o,ii p] rfl 2 rfl
 go_wp2_with (
  (refine a.mono ?_)
  clear a;rintro e w9 ⟨rfl,bo,bp⟩
  have av:RowZ w9 E.heap.size rr rv 128 (fields [(1,75),(1,67),(4,c),(4,view),(1,mode),(4,d),(4,f),(4,l),(1,o),(1,p)]):=by
   have h:=bo;rw[ZO,<- KG] at h;exact h
  clear bo;have aw:=ar.trans bp (fun x b=>.inr (ap.fresh x b));clear bp ar ap;clear F G H I J L M N O Q R S T D m;have ax:=a0.kO aw;obtain⟨F,G,H,I,J,L,M,N,O,Q,R,S,T,D⟩:=ZD ax;have m:=ax.lt;clear ax)
 have a:=QAO (k:=4) av Z [v,A,C] (by simp;omega) sq (by simp[widths]) #[ii v,ii A,ii C] rfl 3 rfl
 go_wp2_with (
  (refine a.mono ?_)
  clear a;rintro e bq ⟨rfl,br,bs⟩
  have ay:RowZ bq E.heap.size rr rv 128 (fields [(1,75),(1,67),(4,c),(4,view),(1,mode),(4,d),(4,f),(4,l),(1,o),(1,p),(4,v),(4,A),(4,C)]):=by
   have h:=br;rw[ZO,<- KG] at h;exact h
  clear br;have aa:=aw.trans bs (fun x b=>.inr (av.fresh x b));clear bs aw av;clear F G H I J L M N O Q R S T D m;have U:=a0.kO aa)
 refine ZT (fun w'=>cl w' (aq w.heap.size 11) (.slice BA P bc)/\cl w' (aq w.heap.size 12) (.slice OA P oc)) 8 [[0,1,2,4,5],[3],[6],[7]] ⟨(ZD U.drew).2.2.2.2.2.2.2.2.2.2.2.1,(ZD U.drew).2.2.2.2.2.2.2.2.2.2.2.2.1⟩ ?_;simp only[PI];iterate 5 refine wG ?_
 have az:kz w bq.drew:=(a9.tO aa).drew;refine YB rq (fun K V=>?_);go_wp2_with (apply mq (ab _ az));refine V _ _ (⟨(ZD U.drew).2.2.2.2.2.2.2.2.2.2.2.1,(ZD U.drew).2.2.2.2.2.2.2.2.2.2.2.2.1⟩) ?_
 try simp only[Act.put,PU]
 refine YB rq (fun K V=>?_);go_wp2_with (apply mq (ac _ az));refine V _ _ (⟨(ZD U.drew).2.2.2.2.2.2.2.2.2.2.2.1,(ZD U.drew).2.2.2.2.2.2.2.2.2.2.2.2.1⟩) ?_
 try simp only[Act.put,PU]
 refine YB rq (fun K V=>?_);go_wp2_with fail;refine V _ _ (⟨(ZD (U.drew.kO (kq.alloc _))).2.2.2.2.2.2.2.2.2.2.2.1,(ZD (U.drew.kO (kq.alloc _))).2.2.2.2.2.2.2.2.2.2.2.2.1⟩) ?_
 try simp only[Act.put,PU]
 refine KB ?_;have bt:=ay.kO kq.drew;have a:=QAO (k:=1) bt Z [q1,q2] (by simp;omega) sq (by simp[widths]) #[ii q1,ii q2] rfl 2 rfl
 go_wp2_with (
  (refine a.mono ?_)
  clear a;rintro e cf ⟨rfl,bu,bv⟩
  have bw:RowZ cf E.heap.size rr rv 128 (fields [(1,75),(1,67),(4,c),(4,view),(1,mode),(4,d),(4,f),(4,l),(1,o),(1,p),(4,v),(4,A),(4,C),(1,q1),(1,q2)]):=by
   have h:=bu;rw[ZO,<- KG] at h;exact h
  clear bu;have b0:=aa.drew.trans bv (fun x b=>.inr (ay.fresh x b));have b2:=a0.kO b0;have D:=(ZD b2).2.2.2.2.2.2.2.2.2.2.2.2.2;have m:=b2.lt;clear ab ac b7 az bt aa U ay bv)
 clear D m;go_loopw [8,74] (fun _ i wr=>∃ k:Nat,k<=8/\i=.int .i64 k/\RowZ wr E.heap.size rr rv 128 (fields ([(1,75),(1,67),(4,c),(4,view),(1,mode),(4,d),(4,f),(4,l),(1,o),(1,p),(4,v),(4,A),(4,C),(1,q1),(1,q2)]++(us.take k).flatMap Xi))/\kz E wr) (fun _ i _=>8-(intOf i).toNat)
 case atStart=>exact⟨0,AS _,rfl,uq bw,b0⟩
 clear b2 b0 bw;obtain⟨k,t,rfl,a1,V⟩:=hrel;by_cases m:k<8
 . have a4:k<us.length:=by rw[JA ad];exact m
   have d9:((k:Nat):Int)<8:=Z;have a2:=a9.tO V;have da:s<wr.heap.size:=(KI YJ (hs.keep a2) a4 (j:=0) Z).1;have d0:=(KI YJ (hs.keep a2) a4 (j:=0) Z).2;have d1:=(KI YJ (hs.keep a2) a4 (j:=1) Z).2;obtain⟨u1,u2⟩:=cb _ (AQ a4)
   have bx:(us.take (k+1)).flatMap Xi=(us.take k).flatMap Xi++Xi us[k]:=by
    rw[AO a4,Az,DL]
   have bz:widths ([(1,75),(1,67),(4,c),(4,view),(1,mode),(4,d),(4,f),(4,l),(1,o),(1,p),(4,v),(4,A),(4,C),(1,q1),(1,q2)]++(us.take k).flatMap Xi)=39+5*k:=by
    rw[QU,Qm,BE,CE Z];simp[widths]
   have cg:=JB bx;clear bx;generalize c2:[(1,75),(1,67),(4,c),(4,view),(1,mode),(4,d),(4,f),(4,l),(1,o),(1,p),(4,v),(4,A),(4,C),(1,q1),(1,q2)]++(us.take k).flatMap Xi=FK at *;have ch:=JB c2;clear c2;generalize us[k]=u at *;obtain⟨x,y⟩:=u;simp only[Kk,Bi,Bo,BV] at d0 d1 u1 u2;obtain⟨b3,a5⟩:=ex (wr.alloc (.cells #[ii x,ii y] 166));have ci:Blk b3 wr.heap.size 166 #[ii x,ii y]:=by rw[a5];exact Blk.new _ _ _
   have c4:wr.heap.size+1=b3.heap.size:=by rw[a5,AN]
   have c5:kz wr b3:=by rw[a5];exact kq.alloc _
   have cj:=V.tO c5;have b4:=a1.kO c5;have a:=QAO (k:=1) b4 Z [x] (by simp;omega) sq (by simp[bz];omega) #[ii x] rfl 1 rfl;have ck:=JB c4;have cm:=JB a5;clear c4 a5;go_wp2_with fail;rw[<- JA cm,JA ck];apply a.mono;rintro e c6 ⟨rfl,c7,c8⟩;have c9:=b4.x.blk c8 ci (by decide) (by decide);have e1:cl c6 (aq wr.heap.size 1) (ii y):=uq (c9.cell 1);have db:=c9.lt;have a:=QAO (k:=4) c7 Z [y] (by simp;omega) sq (by simp[bz];omega) #[ii y] rfl 1 rfl
   go_wp2_with (
    (refine a.mono ?_)
    clear a;rintro e cn ⟨rfl,co,cp⟩)
   go_roundw
   case rel=>
    refine⟨k+1,Z,by go_num,?_,(cj.trans c8 (fun x b=>.inr (b4.fresh x b))).trans cp (fun x b=>.inr (c7.fresh x b))⟩;rw[JA cg,<- BG,JA ch,KG];simpa [fields,Xi] using co
   case measure=>simp[intOf];omega
 obtain rfl:8=k:=Z
 have ca:[(1,75),(1,67),(4,c),(4,view),(1,mode),(4,d),(4,f),(4,l),(1,o),(1,p),(4,v),(4,A),(4,C),(1,q1),(1,q2)]++(us.take 8).flatMap Xi=VBn ⟨c,view,mode,d,f,l,⟨o,p,v,A,C⟩⟩ P X Y us:=by
  rw[AH (by rw[JA ad];omega),JA cc,JA cd];rfl
 rw[ca] at a1;clear ca;have cq:=JAH a1;go_wp2_with (apply cq.mono;rintro e c6 ⟨u,rfl,hu,a3⟩);have cr:=KBi hu Z (by rw[length_fields,VAB,JA ad];omega) Z;go_wp2_with (apply cr.mono;rintro e cn ⟨rfl,cs,ct⟩);go_ret2;have a2:=a9.tO V;exact⟨u,rfl,ZC cs a2.size,(a2.tO a3).trans ct (fun x b=>.inr (AA a2.size (own_mem hu b).1))⟩
theorem QBe (j:GeomAt w g B) {r:PReg} (h:r.May) (c:Nat) (a:List Nat) (d:Nat) (b:List Nat) (k:Rd w BA (pgs B) (YL a)) (l:Rd w OA (pgs B) (YL b)) (m:∀ z∈a,z<=1) (n:∀ z∈b,z<=1)
 (s f:Nat) (o:Rd w (some s) (8*2) (us.flatMap Kk)) (i:VT us r.pos.seg) :
 Calls prog 226 #[pq g,.agg (r.cs (.slice BA (pgs B) c) (.slice OA (pgs B) d) (.slice (some s) 8 f)).toArray] w fun e w'=>∃ u bs,e=.returned (.tuple #[u,zz])/\bs.length=128/\w'.ownsRow w.heap.size 5 1 u 128 (bys bs)/\kz w w':=by
 apply (KAX j h c a d b k l m n s f o i).mono;rintro e w' ⟨u,rfl,p,t⟩;exact⟨u,_,rfl,Je _ _ _ _ i.1,p,t⟩
def XAT (z:Int):Nat:=if z<0 then 4294967295 else z.toNat
theorem YBG {z:Int} (h:z<4096):XAT z<256 ^ 4:=by unfold XAT;split <;> omega
theorem ZBQ (z:Int) (c:-1<=z) (d:z<4096):bits BinOp.and IntKind.i64 z 4294967295=(XAT z:Nat):=by
 rcases Int.lt_or_le z 0 with h | h
 . obtain rfl:z = -1:=Z
   rfl
 obtain⟨n,rfl⟩:∃ n:Nat,z=n:=⟨z.toNat,Z⟩;show IntKind.i64.wrap ((BitVec.ofInt 64 (n:Int) &&& BitVec.ofInt 64 4294967295).toNat:Int)=_;have a:(BitVec.ofInt 64 4294967295).toNat=4294967295:=by decide
 have b:(BitVec.ofInt 64 (n:Int)).toNat=n:=by rw[BitVec.toNat_ofInt];omega
 rw[CW,a,b,show (4294967295:Nat)=2 ^ 32-1 from rfl,Cp,Bh Z,AK];unfold XAT;rw[AL Z];omega
def QZ (zs:List Int):List (Nat×Nat):=zs.map fun z=>(4,XAT z)
def JY (zs:List Int):List UInt8:=Vk 64 (fields (QZ zs))
theorem ZX (zs:List Int):widths (QZ zs)=4*zs.length:=by
 induction zs with
 | nil=>rfl
 | cons z zs ih=>simp only[QZ,CN,widths,Am] at ih ⊢;omega
theorem Za {zs:List Int} (h:zs.length<=15):(JY zs).length=64:=Va Z (by rw[length_fields,ZX];omega)
theorem YAJ (c:Nat) (zs:List Int) (j:Rd w A n (VM zs)) (E:∀ z∈zs,-1<=z/\z<4096) (R:n<=15) :
 Calls prog 221 #[.slice A n c] w fun e w'=>∃ u,e=.returned (.tuple #[u,zz])/\w'.ownsRow w.heap.size 5 1 u 64 (bys (JY zs))/\kz w w':=by
 have l:zs.length=n:=by simpa [VM] using j.1
 have g:=JB l;clear l;have S:((n:Nat):Int)<=15:=Z;have F:=YBo 64 Z w;go_enter func221,ntmps221;go_wp2_with (apply F.mono;rintro e w1 ⟨r,G,rfl,d,a⟩);go_loopw [6,13] (fun _ i wr=>∃ k:Nat,k<=n/\i=.int .i64 k/\RowZ wr w.heap.size r G 64 (fields ((QZ zs).take k))/\kz w wr) (fun _ i _=>n-(intOf i).toNat)
 case atStart=>exact⟨0,AS _,rfl,by simpa [fields] using d,a⟩
 clear d a;obtain⟨k,T,rfl,d,a⟩:=hrel;by_cases p:k<n
 . have h:k<zs.length:=by rw[JA g];exact p
   have U:((k:Nat):Int)<(n:Nat):=Z;obtain⟨b,o,u,rfl,f,V,s⟩:=(j.keep a).at_ p;simp only[VM,Aa,AC h,Ao,Ae] at f;subst f;obtain⟨H,t⟩:=E _ (AQ h);have v:(QZ zs).take (k+1)=(QZ zs).take k++[(4,XAT zs[k])]:=ZAL _ zs k h
   have y:widths ((QZ zs).take k)=4*k:=by
    unfold QZ;rw[<- Df];have:=ZX (zs.take k);rw[BE,CE Z] at this;exact this
   generalize zs[k]=z at *;replace s:cl wr (aq b (o+k)) (ii z):=s;have W:=ZBQ z H t;have B:=YBG t;have C:=QAO (k:=4) d Z [XAT z] (uq B) sq (by simp[y];omega) #[ii (XAT z)] rfl 1 rfl;have I:=JB v;clear B v y;generalize XAT z=m at *
   go_wp2_with (
    (refine C.mono ?_)
    clear C;rintro e J ⟨rfl,K,L⟩)
   go_roundw
   case rel=>
    refine⟨k+1,Z,by go_num,?_,a.trans L (fun x f=>.inr (d.fresh x f))⟩;rw[JA I,KG];simpa [fields] using K
   case measure=>simp[intOf];omega
 obtain rfl:n=k:=Z;rw[AH (by simp[QZ,JA g])] at d;have M:=JAH d;go_wp2_with (apply M.mono;rintro e X ⟨u,rfl,D,N⟩);have O:=KBi D Z (by rw[length_fields,ZX,JA g];omega) Z;go_wp2_with (apply O.mono;rintro e J ⟨rfl,P,Q⟩);go_ret2;exact⟨u,rfl,ZC P a.size,(a.tO N).trans Q (fun x f=>.inr (AA a.size (own_mem D f).1))⟩
theorem ZBY (k:Nat):le k 0=List.replicate k 0:=by
 induction k with
 | zero=>rfl
 | succ k ih=>rw[le_succ,ih,Nat.zero_div,List.replicate_succ'];rfl
theorem ZAT (j:Nat):fields (List.replicate j (4,0))=List.replicate (4*j) 0:=by
 induction j with
 | zero=>rfl
 | succ j ih=>rw[List.replicate_succ,fields,ih,ZBY,CY];congr 1;omega
theorem VBE {N j:Nat} {H:List UInt8} (h:H.length+j<=N-4):Vk N (H++List.replicate j 0)=Vk N H:=by
 have:XY (N-4) (H++List.replicate j 0)=XY (N-4) H:=by
  unfold XY;rw[BG,CY,AE,Ai]
  congr 2
  omega
 unfold Vk;rw[this]
theorem KBA (zs:List Int) (j:Nat) (h:zs.length+j<=15):JY (zs++List.replicate j 0)=JY zs:=by
 have e:QZ (zs++List.replicate j 0)=QZ zs++List.replicate j (4,0):=by simp[QZ,XAT]
 unfold JY;rw[e,KG,ZAT,VBE];rw[length_fields,ZX];omega
def Yu (n:Nat) (x:Int):List Int:=List.replicate n x++List.replicate (15-n) 0
theorem KAN (x:Int) (h:n<=15):(Yu n x).length=15:=by simp[Yu];omega
theorem XAY (x:Int) (h:n<=15):JY (List.replicate n x)=JY (Yu n x):=(KBA _ _ (by simp;omega)).symm
theorem VAa (x:Int):(Yu n x).take n=List.replicate n x:=by simp[Yu]