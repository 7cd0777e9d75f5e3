/- Lemmas of the proof, with their conditions. -/
import Derived.Test.YtfedaknhecbehaaGreatM29
namespace Go.Proofs.YtfedaknhecbehaaGreat
open Tryz Go.RowKit Go.Shelf
variable {v:Value} {n g:Nat} {sl:List PSlot} {o:Option (List UInt8)}
set_option linter.all false
set_option maxHeartbeats 8000000
set_option maxRecDepth 40000
theorem Ke {k v s b c e d:Nat} {a:List UInt8} (hm:FrMay k v s b c e d a) {A:Option Addr} (cp:Nat) {w:World} (ha:Rd w A n (bys (YG k v s b c e d a))) :
 Calls prog 148 #[.slice A n cp] w fun r w'=>∃ f g,r=.returned (.tuple #[.agg #[ii k,ii v,ii s,ii b,ii c,ii e,ii d,.slice f a.length g],zz])/\w'.ownsRow w.heap.size 5 1 (.slice f a.length g) a.length (bys a)/\kz w w':=by
 have o:=hm.bounds;have p:n=25+a.length:=by have:=ha.1;simpa using this.symm
 refine(QAD cp _ ha Z Z).mono ?_;rintro r w' ⟨j,i⟩;have l:YL (YG k v s b c e d a)=⟨k,v,s,b,c,e,d,a⟩:=JAF k v s b c e d a Z Z Z Z Z Z Z;rw[l] at i;rcases i with⟨_,_,u,rfl,h⟩ | ⟨m,_⟩
 . have hlen:(YG k v s b c e d a).length-25=a.length:=sq
   rw[hlen] at h;obtain⟨f,g,rfl,_⟩:=XB h;exact⟨f,g,rfl,h,j⟩
 exact absurd ⟨hm,rfl⟩ m
theorem JBR {w:World} {base r s d x:Nat} {Fs Fx:List Nat} {B:Nat} {R:RS} (h:ReplicaIs w base r s d x Fs Fx B R) (hbase:base<=w.heap.size) {k b c e m:Nat} (fs:Nat) (xs:List UInt8) {A:Option Addr} (cp:Nat)
 (ha:Rd w A (25+m) (bys (YG k R.S.st.view fs b c e 0 xs))) (ho:OpMay k b c e m) (hlen:xs.length=m) (hfor:b+max c 1<=B\/k=3) (hfs:1<=fs/\fs<=2147483647) (u:Ending->World->Prop)
 (T:∀ g a f,kz w g->g.ownsRow w.heap.size 5 1 (.slice a m f) m (bys xs)->Calls prog 153 #[pq x,fs,.agg #[ii k,ii b,ii c,ii e,.slice a m f]] g fun v y=>
   (v=.returned zz/\Calls prog 154 #[pq r] y (fun e w'=>∃ A n c z,e=.returned (.tuple #[.slice A n c,ii z])/\u e w')) \/
   (v=.returned (ii 9)/\Calls prog 155 #[pq r] y (fun e w'=>∃ A n c,e=.returned (.tuple #[.slice A n c,zz])/\u (.returned (.tuple #[.slice A n c,ii 9])) w')) \/
   (v=.returned (ii 10)/\u (.returned (.tuple #[zn,ii 10])) y)) :
 Calls prog 45 #[pq r,.slice A (25+m) cp] w u:=by
 have U:=h.view;have C:FrMay k R.S.st.view fs b c e 0 xs:=ho.fr U hfs hlen;have D:=Ke C cp ha;have E:=fun a f W (hr:Rd W a m (bys xs))=>XBk f hr (by have:=C.bounds;omega) (by rcases ho with⟨h,_⟩ | ⟨h,_⟩ | ⟨h,_⟩ <;> omega) (by rcases ho with⟨h,_⟩ | ⟨h,_⟩ | ⟨h,_⟩ <;> omega) C;have V:=fun W (l:kz w W)=>readyR_ok W base r s d x Fs Fx B R (h.kO l)
 have F:∀ a f W,kz w W->cr 150 #[pq r,.agg #[ii k,ii R.S.st.view,ii fs,ii b,ii c,ii e,ii (0:Nat),.slice a m f]] W (.bool false):=fun a f W l=>by
  rcases hfor with X | rfl
  . rcases ho with⟨G,_⟩ | ⟨G,_⟩ | ⟨G,h2,h3,h4⟩
    . exact Xd W base r s d x Fs Fx B R (h.kO l) k R.S.st.view fs b c e 0 _ Z X a m f rfl
    . exact Xd W base r s d x Fs Fx B R (h.kO l) k R.S.st.view fs b c e 0 _ Z X a m f rfl
    subst G
    exact Qh W r R.S.st.view fs b c e 0 a m f
  exact Qh W r R.S.st.view fs b c e 0 a m f
 have H:=fun W (l:kz w W)=>JP (h.kO l).st;have I:=fun W (l:kz w W)=>(h.kO l).cells;rw[hlen] at D;unfold frv at E;have a5:¬ ((k:Nat):Int)=9:=by have:=ho;rcases this with⟨h,_⟩ | ⟨h,_⟩ | ⟨h,_⟩ <;> omega
 have am:(((k:Nat):Int) == 9)=false:=uq a5
 clear h ha C U hfor;have an:=ZB ho;clear ho;generalize R.S.st=st at *;obtain⟨mode,view,ao,seq,ap,ar,au⟩:=st;simp only at D E F H;have av:=fun(a6 a7 a8 a9 aa ab ac ad ae af:Value) W=>KE (P:=prog) underlying58 1 rfl isAgg3 #[a6,a7,a8,a9,aa,ab,ac,ad,ae,af] rfl W;go_enter func45,ntmps45
 go_wp2_with (first
  | (go_at_call 148
     refine D.mono ?_;clear D;rintro e1 w1 ⟨a,f,rfl,hu,ag⟩;have o:=Blk.new w1 211 #[ii k,ii view,ii fs,ii b,ii c,ii e,ii (0:Nat),.slice a m f];have i:kz w (w1.alloc (.cells #[ii k,ii view,ii fs,ii b,ii c,ii e,ii (0:Nat),.slice a m f] 211)):=ag.alloc _
     have t:=XE hu (.cells #[ii k,ii view,ii fs,ii b,ii c,ii e,ii (0:Nat),.slice a m f] 211))
  | (go_at_call 149
     refine(V _ i).mono ?_;clear V;rintro e2 w2 ⟨rfl,J⟩;replace o:=o.kO J;replace i:=i.tO J;replace t:=QB t J
     obtain⟨Y,L,f2,f3,f4,f5,f6,f7⟩:=KB o)
  | (go_at_call 150
     refine(F _ _ _ i).mono ?_;clear F;rintro e3 w3 ⟨rfl,M⟩;replace o:=o.kO M;replace i:=i.tO M;replace t:=QB t M;obtain⟨Y,L,f2,f3,f4,f5,f6,f7⟩:=KB o))
 have r0:=(I _ i).1;refine ZT (fun w'=>cl w' (aq w1.heap.size 1) view/\cl w' r (pq s)) 8 [[0,1,2,3,4,5],[6,7]] ⟨L,r0⟩ ?_;simp only[PI];iterate 6 refine wG ?_
 refine JB rq fun K ah=>?_
 go_wp2_with (
  refine(H _ i.drew).mono ?_;clear H;rintro e4 w4 ⟨rfl,N⟩;have O:=i.drew.tO N;have Q:=o.drew.kO N;have ai:=QB t (kq.drew.tO N))
 refine ah _ _ (⟨(KB Q).2.1,(I _ O).1⟩) ?_
 iterate 1 refine wG ?_
 refine VB ?_;obtain⟨g0,g1,g2,g3,g4,g5,g6,g7⟩:=KB Q;have a0:=E a f w4 (Rd.of_own ai)
 go_wp2_with (go_at_call 152
              refine a0.mono ?_;clear a0;rintro v g ⟨ua,rfl,a1,a2⟩;obtain⟨p,q,rfl,aw,_⟩:=XB a1)
 have a3:=(O.tO a2).alloc (.cells #[ii k,ii b,ii c,ii e,.slice p m q] 95);have aj:=(Q.kO a2).kO (kq.alloc (.cells #[ii k,ii b,ii c,ii e,.slice p m q] 95));have ak:=Blk.new g 95 #[ii k,ii b,ii c,ii e,.slice p m q];obtain⟨o0,o1,o2,o3,o4⟩:=ZE ak;have r1:=(I _ a3).2;have s2:=(KB aj).2.2.1;have a4:=T _ p q a3.drew (QB (VC a1 O.size) ((kq.alloc (.cells #[ii k,ii b,ii c,ii e,.slice p m q] 95)).drew));clear T g0 g1 g2 g3 g4 g5 g6 g7 Y L f2 f3 f4 f5 f6 f7;refine ZT (fun w'=>cl w' (aq r 1) (pq x)/\cl w' (aq w1.heap.size 2) fs/\cl w' (aq g.heap.size 0) (ii k)/\cl w' (aq g.heap.size 1) (ii b)/\cl w' (aq g.heap.size 2) (ii c)/\cl w' (aq g.heap.size 3) (ii e)/\cl w' (aq g.heap.size 4) (.slice p m q)) 7 [[0,1,2,3,4,5,6]] ⟨r1,s2,o0,o1,o2,o3,o4⟩ ?_;simp only[PI];iterate 7 refine wG ?_
 refine VB ?_
 go_wp2_with (go_at_call 153
              refine a4.mono ?_;clear a4;rintro e6 y j;rcases j with⟨rfl,j⟩ | ⟨rfl,j⟩ | ⟨rfl,j⟩)
 . go_wp2_with (refine j.mono ?_
                clear j;rintro e7 w7 ⟨al,n7,c7,z7,rfl,S⟩)
   exact S
 . go_wp2_with (refine j.mono ?_
                clear j;rintro e7 w7 ⟨al,n7,c7,rfl,S⟩)
   exact S
 go_wp2
 exact j
theorem JAq {A:Option Addr} (cp:Nat) (bs:List UInt8) {w:World} (ha:Rd w A n (bys bs)) (a:25<=n) (b:n<=65536) (c:¬ ((YL bs).May/\(YL bs).bytes=bs)) :
 cr 148 #[.slice A n cp] w (.tuple #[.agg #[zz,zz,zz,zz,zz,zz,zz,zn],ii 2]):=by
 refine(QAD cp bs ha a b).mono ?_;rintro e w' ⟨d,⟨f,g,_⟩ | ⟨_,rfl⟩⟩
 . exact absurd ⟨f,g⟩ c
 exact⟨rfl,d⟩
theorem XAw (r:Nat) (A:Option Addr) (n cp:Nat) (w:World) (a:cr 148 #[.slice A n cp] w (.tuple #[.agg #[zz,zz,zz,zz,zz,zz,zz,zn],ii 2])) :
 cr 45 #[pq r,.slice A n cp] w (.tuple #[zn,ii 2]):=by
 go_enter func45,ntmps45;go_wp2_with (refine a.mono ?_;clear a;rintro e w1 ⟨rfl,b⟩);go_ret2;exact⟨rfl,b.alloc _⟩
theorem JAh {w:World} {base r s d x:Nat} {Fs Fx:List Nat} {B:Nat} {R:RS} (h:ReplicaIs w base r s d x Fs Fx B R) {k b c e m:Nat} (v fs:Nat) (xs:List UInt8) {A:Option Addr} (cp:Nat)
 (ha:Rd w A (25+m) (bys (YG k v fs b c e 0 xs))) (ho:OpMay k b c e m) (hlen:xs.length=m) (hfor:b+max c 1<=B\/k=3) (hfs:1<=fs/\fs<=2147483647) (G:1<=v/\v<=2147483647) (H:v≠R.S.st.view) :
 cr 45 #[pq r,.slice A (25+m) cp] w (.tuple #[zn,ii 8]):=by
 have q:FrMay k v fs b c e 0 xs:=ho.fr G hfs hlen;have l:=Ke q cp ha;have t:=fun W (i:kz w W)=>readyR_ok W base r s d x Fs Fx B R (h.kO i)
 have n:∀ a f W,kz w W->cr 150 #[pq r,.agg #[ii k,ii v,ii fs,ii b,ii c,ii e,ii (0:Nat),.slice a m f]] W (.bool false):=fun a f W i=>by
  rcases hfor with u | rfl
  . rcases ho with⟨o,_⟩ | ⟨o,_⟩ | ⟨o,h2,h3,h4⟩
    . exact Xd W base r s d x Fs Fx B R (h.kO i) k v fs b c e 0 _ Z u a m f rfl
    . exact Xd W base r s d x Fs Fx B R (h.kO i) k v fs b c e 0 _ Z u a m f rfl
    subst o
    exact Qh W r v fs b c e 0 a m f
  exact Qh W r v fs b c e 0 a m f
 have p:=fun W (i:kz w W)=>JP (h.kO i).st;have y:=fun W (i:kz w W)=>(h.kO i).cells;rw[hlen] at l;have I:¬ ((k:Nat):Int)=9:=by have:=ho;rcases this with⟨h,_⟩ | ⟨h,_⟩ | ⟨h,_⟩ <;> omega
 have a2:(((k:Nat):Int) == 9)=false:=uq I
 clear h ha q hfor;have a3:=ZB ho;clear ho;generalize R.S.st=st at *;obtain⟨mode,view,a4,seq,a5,a6,a7⟩:=st;simp only at l n p H;have J:¬ ((v:Nat):Int)=(view:Nat):=Z
 have a8:(((v:Nat):Int) == (view:Nat))=false:=uq J
 have a9:=fun(L M N O Q S T U V X:Value) W=>KE (P:=prog) underlying58 1 rfl isAgg3 #[L,M,N,O,Q,S,T,U,V,X] rfl W;go_enter func45,ntmps45
 go_wp2_with (first
  | (go_at_call 148
     refine l.mono ?_;clear l;rintro e1 w1 ⟨a,f,rfl,hu,Y⟩;have j:=Blk.new w1 211 #[ii k,ii v,ii fs,ii b,ii c,ii e,ii (0:Nat),.slice a m f]
     have g:kz w (w1.alloc (.cells #[ii k,ii v,ii fs,ii b,ii c,ii e,ii (0:Nat),.slice a m f] 211)):=Y.alloc _)
  | (go_at_call 149
     refine(t _ g).mono ?_;clear t;rintro e2 w2 ⟨rfl,z⟩;replace j:=j.kO z;replace g:=g.tO z
     obtain⟨f0,C,f2,f3,f4,f5,f6,f7⟩:=KB j)
  | (go_at_call 150
     refine(n _ _ _ g).mono ?_;clear n;rintro e3 w3 ⟨rfl,D⟩;replace j:=j.kO D;replace g:=g.tO D;obtain⟨f0,C,f2,f3,f4,f5,f6,f7⟩:=KB j))
 have r0:=(y _ g).1;refine ZT (fun w'=>cl w' (aq w1.heap.size 1) v/\cl w' r (pq s)) 8 [[0,1,2,3,4,5],[6,7]] ⟨C,r0⟩ ?_;simp only[PI];iterate 6 refine wG ?_
 refine JB rq fun K a0=>?_
 go_wp2_with (
  refine(p _ g.drew).mono ?_;clear p;rintro e4 w4 ⟨rfl,E⟩;have F:=g.drew.tO E;have a1:=j.drew.kO E)
 refine a0 _ _ (⟨(KB a1).2.1,(y _ F).1⟩) ?_
 iterate 1 refine wG ?_
 refine VB ?_
 go_wp2
 go_ret2;exact⟨rfl,F⟩
theorem Vj {i:Nat} (hi:i<sl.length) (h:(sl.getD i PSlot.none_).is=false) (q:PSlot) (b:q.is=true):QF (sl.set i q)=QF sl+1:=by
 unfold QF;have c:sl[i].is=false:=by simpa [AA,hi] using h
 have:=List.countP_set (p:=(·.is)) (l:=sl) (i:=i) (a:=q) hi;rw[this,AF (by simp[c]),AJ b];rfl
section
variable (w:World) (base r s d x:Nat) (Fs Fx:List Nat) (B:Nat) (R:RS) (h:ReplicaIs w base r s d x Fs Fx B R) (hbase:base<=w.heap.size) (k b c e m fs:Nat) (xs:List UInt8) (A:Option Addr) (cp:Nat)
 (ha:Rd w A (25+m) (bys (YG k R.S.st.view fs b c e 0 xs))) (ho:OpMay k b c e m) (hlen:xs.length=m) (hfor:b+max c 1<=B\/k=3) (hfs:1<=fs/\fs<=2147483647)
include h hbase ha ho hlen hfor hfs
theorem JBE (d:R.next+R.sl.length<=fs):cr 45 #[pq r,.slice A (25+m) cp] w (.tuple #[zn,ii 10]):=by
 refine JBR h hbase fs xs cp ha ho hlen hfor hfs _ ?_;intro f g i a n;obtain⟨L,j⟩:=h.win;refine(JBP f base x L Fx R.next R.sl (j.kO a) fs d hfs.2 k b c e g m i).mono ?_;rintro o p ⟨rfl,l⟩;exact .inr (.inr ⟨rfl,rfl,a.tO l⟩)
theorem YAo (j:fs<R.next) (hs:R.S.st.seq<=2147483647) (l:R.S.st.epoch<=2147483647) (n:R.S.st.done<=R.S.st.seq):Calls prog 45 #[pq r,.slice A (25+m) cp] w fun e w'=>
 ∃ u,e=.returned (.tuple #[u,ii 9])/\w'.ownsRow w.heap.size 5 1 u 25 (bys (YG 8 R.S.st.view R.S.st.seq 0 0 R.S.st.epoch R.S.st.done []))/\kz w w':=by
 refine JBR h hbase fs xs cp ha ho hlen hfor hfs _ ?_;intro o p q a D;obtain⟨L,t⟩:=h.win;refine(XBS o base x L Fx R.next R.sl (t.kO a) fs j k b c e p m q).mono ?_;rintro E v ⟨rfl,f⟩;refine .inr (.inl ⟨rfl,?_⟩);refine(Vo v base r s d x Fs Fx B R (h.kO (a.tO f)) hs l n).mono ?_;rintro F G ⟨u,rfl,g,y⟩;have i:=(a.tO f);obtain⟨z,C,rfl,_⟩:=XB g;exact⟨z,_,C,rfl,_,rfl,VC g i.size,i.tO y⟩
theorem KBN (i j:Nat) (U:Good B R.S i j) (hk:i+QF R.sl<=49) (V:j<=10000) (W:R.next<=1000000) (X:∀ q∈R.sl,q.is=true->KS B q.o) (Y:R.next<=fs) (a0:fs<R.next+R.sl.length) (E:(R.sl.getD (fs % R.sl.length) PSlot.none_).is=false) (a1:KS B ⟨k,b,c,e,xs⟩) :
 Calls prog 45 #[pq r,.slice A (25+m) cp] w fun en w'=>
  ∃ v,QBU w base r s d x Fs Fx B ⟨R.S,R.next,R.sl.set (fs % R.sl.length) ⟨v,⟨k,b,c,e,xs⟩,true⟩⟩ i j en w':=by
 refine JBR h hbase fs xs cp ha ho hlen hfor hfs _ ?_;intro w5 l n o F;obtain⟨L,G⟩:=h.win;have hi:fs % R.sl.length<R.sl.length:=Bk _ G.pos;subst hlen;have a2:=VC F hbase;refine(ZBF w5 base x L Fx R.next R.sl (G.kO o) fs Y a0 hfs.2 E k b c e l n xs a2).mono ?_;rintro e5 w6 ⟨rfl,F',a3,H,I⟩;refine .inl ⟨rfl,?_⟩;have p:∀ z∈(Value.slice l xs.length n).ownBlock.toList,w.heap.size<=z:=fun z hz=>(own_mem F hz).1
 have a4:=(h.kO o).setWin ⟨L,a3⟩ H (fun y a=>by
  rcases I y a with f | f
  . exact .inl f
  refine .inr ⟨fun hm=>?_,?_⟩
  . have:=p y f;have:=h.st.lt y hm;omega
  have:=p y f;have:=h.blk.lt;omega)
 have a5:=Vj hi E ⟨.slice l xs.length n,⟨k,b,c,e,xs⟩,true⟩ rfl;have J:Keep (YJ r Fs Fx) w w6:=o.zero.trans H (fun y a=>.inl (by simp[YJ,a]));refine(KBj a4 U (by simp only[a5];omega) V W ?_).mono ?_
 . intro q t a6
   rcases AS t with t | rfl
   . exact X q t a6
   exact a1
 rintro e7 w7 ⟨C,D,K,er,f,M,N,O,h5,h6,h7⟩
 have a7:=J.size
 have P:Grow w (YJ r Fs Fx) (YJ r Fs F'):=by
  intro y a;simp only[YJ,AL,AD] at a ⊢;rcases a with a | a | a
  . exact .inl (.inl a)
  . exact .inl (.inr (.inl a))
  rcases I y a with g | g
  . exact .inl (.inr (.inr g))
  exact .inr (p y g)
 have Q:Keep (YJ r Fs Fx) w w7:=J.trans h5 P
 have S:Grow w (YJ r Fs Fx) (YJ r C D):=fun y a=>by
  rcases h6 y a with g | g
  . exact P y g
  exact .inr Z
 rcases h7 with⟨rfl,u,rfl,T⟩ | ⟨rfl,rfl⟩
 . obtain⟨a8,c7,rfl,_⟩:=XB T
   exact⟨a8,_,c7,_,rfl,_,C,D,K,0,f,M,N,O,Q,S,.inl ⟨rfl,_,rfl,VC T a7⟩⟩
 exact⟨none,0,0,_,rfl,_,C,D,K,1,f,M,N,O,Q,S,.inr ⟨rfl,rfl⟩⟩
end
theorem YBJ (m:Nat) (c:1<=m) (d:m<=16) (w:World):cr 43 #[.pointer none,m] w (.pointer none):=by
 have a:=QAl w;have b:∀ W,Calls prog 146 #[m,ii 1] W _:=fun W=>VAM m 1 c d Z W;have h:=fun W=>KE (P:=prog) underlying58 3 rfl isAgg3 #[zz,zz,zz,zz,zz,zz,zz,zz,zz,zz] rfl W;go_enter func43,ntmps43
 go_wp2_with (first
  | (go_at_call 22;refine a.mono ?_;clear a;rintro e w1 ⟨rfl,f⟩)
  | (go_at_call 146;refine(b _).mono ?_;clear b;rintro e i ⟨x,rfl,F,j,g⟩))
 go_ret;exact⟨rfl,f.tO g⟩
theorem WinIs.down {w:World} {b1 b x next:Nat} {L:Value} {F:List Nat} (h:WinIs w b x L F next sl) (a:b1<=b):WinIs w b1 x L F next sl:=
 ⟨h.blk,VC h.row a,fun q c=>VC (h.dat q c) a,h.foot,AB a h.base,h.pos,h.few,h.zero,h.nb⟩
section
variable (w:World) (base s d:Nat) (Fs:List Nat) (B:Nat) (S:PS) (h:StoreAt w base s d Fs B S) (hs:S.st.seq<=1000000)
include h hs
theorem JAu (m:Int) (hm:m<1\/16<m):cr 43 #[pq s,ii m] w (.pointer none):=by
 have a:=JP h;generalize S.st=st at *;obtain⟨mode,view,q,seq,r,t,u⟩:=st;simp only at a hs;have b:=fun W=>VAq m (seq+1) hm W;rw[Av] at b;have v:=fun(c d f g i j k l n o:Value) W=>KE (P:=prog) underlying58 3 rfl isAgg3 #[c,d,f,g,i,j,k,l,n,o] rfl W;go_enter func43,ntmps43
 go_wp2_with (first
  | (go_at_call 22;refine a.mono ?_;clear a;rintro e w1 ⟨rfl,p⟩)
  | (go_at_call 146;refine(b _).mono ?_;clear b;rintro e y ⟨rfl,rfl⟩))
 go_ret;exact⟨rfl,p⟩
theorem KBF (m:Nat) (q:1<=m) (t:m<=16) (j:S.st.mode=1) (u:1<=S.st.view/\S.st.view<=2147483647) (hbase:base<=w.heap.size) :
 Calls prog 43 #[pq s,m] w fun e w'=>∃ r x Fx,e=.returned (pq r)/\ReplicaIs w' base r s d x Fs Fx B ⟨S,S.st.seq+1,QD m⟩/\kz w w'/\(∀ y∈YJ r Fs Fx,y∈Fs\/w.heap.size<=y):=by
 have g:=JP h
 have k:∀ b x F r,kz w b->WinAt b w.heap.size x F (S.st.seq+1) (QD m)->r=b.heap.size->ReplicaIs (b.alloc (.cells #[pq s,pq x] 209)) base r s d x Fs F B ⟨S,S.st.seq+1,QD m⟩/\(∀ y∈YJ r Fs F,y∈Fs\/w.heap.size<=y):=by
  intro b x F r f v z;subst z;have l:=(Keep.refl [] b).alloc (.cells #[pq s,pq x] 209);obtain⟨L,c⟩:=v;have n:=c.ge;have A:=c.lt;refine⟨⟨Blk.new _ _ _,h.kO (f.tO l),⟨L,(c.down hbase).kO l⟩,fun y a hm=>?_,fun hm=>?_,fun hm=>?_,?_,j,u⟩,?_⟩
  . have:=h.lt y a;have:=n y hm;omega
  . have:=h.lt _ hm;have:=f.size;omega
  . have:=A _ hm;omega
  . have:=f.size;omega
  intro y a
  simp only[YJ,AL,AD] at a;rcases a with a | a | a
  . exact .inr (by have:=f.size;omega)
  . exact .inl a
  exact .inr (n y a)
 generalize U:S.st=st at *;obtain⟨mode,view,V,seq,X,Y,a0⟩:=st;simp only at g hs k j ⊢;have i:=fun W=>VAM m (seq+1) q t Z W;rw[Av] at i;have a1:=fun(C D E G H I J K M N:Value) W=>KE (P:=prog) underlying58 3 rfl isAgg3 #[C,D,E,G,H,I,J,K,M,N] rfl W;go_enter func43,ntmps43
 go_wp2_with (first
  | (go_at_call 22;refine g.mono ?_;clear g;rintro e w1 ⟨rfl,o⟩)
  | (go_at_call 146;refine(i _).mono ?_;clear i;rintro e b ⟨x,rfl,F,O,Q⟩))
 go_ret;have p:=o.tO Q;obtain⟨L,c⟩:=O;obtain⟨R,T⟩:=k b x F _ p ⟨L,c.down o.size⟩ rfl;exact⟨_,x,F,rfl,R,p.alloc _,T⟩
end
section
variable (w:World) (base r s d x:Nat) (Fs Fx:List Nat) (B:Nat) (R:RS) (h:ReplicaIs w base r s d x Fs Fx B R)
include h
theorem NextR_is:cq 48 #[pq r] w R.next:=by
 obtain⟨c,d⟩:=h.cells
 have a:cq 160 #[pq x] w R.next:=by
  obtain⟨L,b⟩:=h.win;exact NextW_is w base x L Fx R.next R.sl b
 go_enter func48,ntmps48;go_wp2_with (refine a.mono ?_;clear a;rintro e w' ⟨rfl,rfl⟩);go_ret;exact⟨rfl,rfl⟩
theorem WaitingR_is:cr 49 #[pq r] w (cyc R.next R.sl R.sl.length:Nat):=by
 obtain⟨d,f⟩:=h.cells
 have a:cr 161 #[pq x] w (cyc R.next R.sl R.sl.length:Nat):=by
  obtain⟨L,b⟩:=h.win;exact QBX b
 go_enter func49,ntmps49;go_wp2_with (refine a.mono ?_;clear a;rintro e w' ⟨rfl,c⟩);go_ret;exact⟨rfl,c⟩
end
theorem XAe (w:World):cq 51 #[.pointer none] w (.tuple #[zn,ii 3]):=by
 have a:=JAj w;go_enter func51,ntmps51;go_wp2_with (refine a.mono ?_;clear a;rintro e w' ⟨rfl,rfl⟩);go_ret2;exact⟨rfl,rfl⟩
def AckRow (w w':World) (st:PSt) (A:Option Addr) (c:Nat):Prop:=w'.ownsRow w.heap.size 5 1 (.slice A 25 c) 25 (bys (YG 8 st.view st.seq 0 0 st.epoch st.done []))
def XBn (k ep:Nat):Nat:=if k=3 then ep+1 else ep
theorem XBV {st:PSt} {k b c e:Nat} {xs:List UInt8}:(Ji st ⟨k,b,c,e,xs⟩).view=st.view/\(Ji st ⟨k,b,c,e,xs⟩).mode=st.mode/\(Ji st ⟨k,b,c,e,xs⟩).seq=st.seq+1/\(Ji st ⟨k,b,c,e,xs⟩).epoch=XBn k st.epoch/\(k=3->(Ji st ⟨k,b,c,e,xs⟩).done=st.seq+1)/\(k≠3->(Ji st ⟨k,b,c,e,xs⟩).done=st.done):=by
 unfold Ji XBn;by_cases h:k=3
 . subst h
   simp
 have a:¬ ((k:Nat):Int)=3:=Z
 simp[h,a]
@[simp] theorem length_emptyW (m:Nat):(QD m).length=m:=by simp[QD]
theorem JX (m:Nat):QF (QD m)=0:=by
 unfold QF QD;rw[C4];simp[PSlot.none_]
theorem KU (m i:Nat):((QD m).getD i PSlot.none_).is=false:=by
 unfold QD;simp only[AA,Au]
 split <;> rfl
theorem Yp (m B:Nat):∀ q∈QD m,q.is=true->KS B q.o:=by
 intro q a hi;rw[AX a] at hi;cases hi
theorem QAA {m i:Nat} (hi:i<m) (q:PSlot) (a:q.is=true):QF ((QD m).set i q)=1:=by
 rw[Vj (uq hi) (KU m i) q a,JX]
def Off (N:List Nat) (w:World) (F:List Nat):Prop:=∀ b∈N,b∉F/\b<w.heap.size
namespace Off
variable {N:List Nat} {w w':World} {F F':List Nat}
theorem nil:Off [] w F:=fun _ h=>by cases h
theorem kO (h:Off N w F) (c:kz w w'):Off N w' F:=fun b a=>⟨(h b a).1,BP (h b a).2 c.size⟩
theorem turn (h:Off N w F) (c:Keep F w w') (d:Grow w F F'):Off N w' F':=fun b a=>⟨fun hm=>(d b hm).elim (h b a).1 (by have:=(h b a).2;omega),BP (h b a).2 c.size⟩
theorem keepN (h:Off N w F) (a:Keep F w w'):KeepN N w w':=⟨F,a,fun b c=>(h b c).1⟩
theorem add (h:Off N w F) (c:kz w w') {b:Nat} (f:w.heap.size<=b) (d:b<w'.heap.size) (e:∀ x∈F,x<w.heap.size):Off (b :: N) w' F:=fun x a=>by
 rcases AL.1 a with rfl | a
 . exact⟨fun hm=>by have:=e _ hm;omega,d⟩
 exact h.kO c x a
end Off
theorem AckRow.rd {w w':World} {st:PSt} {A:Option Addr} {c v s e d:Nat} (h:AckRow w w' st A c) (a:st.view=v) (b:st.seq=s) (f:st.epoch=e) (g:st.done=d):Rd w' A 25 (bys (YG 8 v s 0 0 e d [])):=by
 subst a b f g;exact Rd.of_own h
theorem Kv (v s e d:Nat) (a:1<=v/\v<=2147483647) (hs:s<=2147483647) (b:e<=2147483647) (c:d<=s):FrMay 8 v s 0 0 e d []:=⟨Z,.inr (.inr (.inr (.inl ⟨rfl,Z,rfl,rfl,Z,Z,rfl⟩)))⟩
theorem Kw (n m k:Nat):cyc n (QD m) k=0:=by
 unfold cyc;rw[DJ];intro j _;rw[KU];simp
theorem Ja {A:Option Addr} (c:Nat) (xs:List Int) {w:World} (ha:Rd w A n (KW xs)) (g:n<=1000000) :
 Calls prog 219 #[.slice A n c] w fun e w'=>∃ v,e=.returned v/\w'.ownsRow w.heap.size 3 1 v n (KW xs)/\kz w w':=by
 have i:=fun(W:World)=>CR (P:=prog) W 53 3 A n c 0 0 underlying53;rcases A with _ | ad
 . obtain rfl:n=0:=by
    rcases BQ n with e | e
    . exact e
    obtain⟨b,o,h,_⟩:=ha.2 e
    cases h
   obtain rfl:xs=[]:=Aw (uq ha.1);go_enter func219,ntmps219
   go_wp2
   go_ret;exact⟨_,rfl,AZ _ _ _ _,kq⟩
 have a:=ha.keep ((Keep.refl _ w).alloc (.cells #[] 3))
 have ho:(w.alloc (.cells #[] 3)).ownsRow w.heap.size 3 1 (.slice (some w.heap.size) 0 0) 0 []:=QR (Blk.new w 3 #[]) (AG _) Z rfl rfl;go_enter func219,ntmps219;go_wp2_with (at_builtin;refine elemInts.wp_app rfl _ _ rfl w.heap.size _ 0 [] rfl ho (some ad) n c (KW xs) rfl a (ZBJ _) Z Z sq ?_);intro j w' d f _ _
 go_wp2
 go_ret;exact⟨_,rfl,uq d,((Keep.refl _ w).alloc _).trans f (by simp[Value.ownBlock])⟩
theorem JY (l:List Nat):XP l=KW (l.map (fun(x:Nat)=>(x:Int))):=by simp[XP,KW,i64]
theorem QBc {w:World} {P:Nat} (d t m p g R:Nat) (r:PReg) {f:Option Addr} (h:Nat) (S:List Nat) {i:Option Addr} (j:Nat) (T:List Nat) (u:Option Addr) (v y:Nat) (U:Rd w f P (XP S)) (ho:Rd w i P (XP T)) (a6:P<=1000) (st:PSt) :
 Calls prog 184 #[pq d,pq t,pq m,pq p,pq g,R,
  .agg (r.cs (.slice f P h) (.slice i P j) (.slice u v y)).toArray,.agg #[ii st.mode,ii st.view,ii st.epoch,ii st.seq,ii st.done,ii st.mount,ii st.gen,zz,zz,zz]] w
  fun e w'=>∃ s V W,e=.returned (pq s)/\w.heap.size<=s /\
   Blk w' s 146 #[pq d,pq g,pq t,pq m,pq p,
    .int .i64 st.mode,ii st.view,ii st.epoch,ii st.seq,ii st.done,ii st.mount,ii st.gen,zz,zz,zz,ii R,V,W] /\
   w'.ownsRow w.heap.size 3 1 V P (XP S)/\w'.ownsRow w.heap.size 3 1 W P (XP T)/\kz w w':=by
 obtain⟨G,view,mode,H,seq,I,⟨J,L,M,N,O⟩⟩:=r;obtain⟨z,A,B,C,D,E,F⟩:=st;simp only[PReg.cs,PPos.cs,As,Am] at *;rw[JY] at U ho;rw[JY,JY];obtain⟨k,q⟩:=ex ((w.alloc (.cells #[ii G,ii view,ii mode,ii H,ii seq,ii I,ii J,ii L,ii M,ii N,ii O,.slice f P h,.slice i P j,.slice u v y] 240)).alloc (.cells #[ii z,ii A,ii B,ii C,ii D,ii E,ii F,zz,zz,zz] 58));have l:kz w k:=by rw[q];exact(kq.alloc _).alloc _
 have n:Blk k w.heap.size 240 #[ii G,ii view,ii mode,ii H,ii seq,ii I,ii J,ii L,ii M,ii N,ii O,.slice f P h,.slice i P j,.slice u v y]:=by
  rw[q];exact(Blk.new w _ _).kO (kq.alloc _)
 have a:Blk k (w.heap.size+1) 58 #[ii z,ii A,ii B,ii C,ii D,ii E,ii F,zz,zz,zz]:=by
  rw[q];have:=Blk.new (w.alloc (.cells #[ii G,ii view,ii mode,ii H,ii seq,ii I,ii J,ii L,ii M,ii N,ii O,.slice f P h,.slice i P j,.slice u v y] 240)) 58 #[ii z,ii A,ii B,ii C,ii D,ii E,ii F,zz,zz,zz];rw[show ∀ o,(w.alloc o).heap.size=w.heap.size+1 from fun o=>sq] at this;exact this
 go_enter func184,ntmps184;go_wp2_with fail;rw[<- q];clear q;have X:=Ja h _ (U.keep l.drew) Z;refine ZT (fun w'=>cl w' ⟨w.heap.size+1,0,none⟩ (ii z)/\cl w' ⟨w.heap.size+1,1,none⟩ (ii A)/\cl w' ⟨w.heap.size+1,2,none⟩ (ii B)/\cl w' ⟨w.heap.size+1,3,none⟩ (ii C)/\cl w' ⟨w.heap.size+1,4,none⟩ (ii D)/\cl w' ⟨w.heap.size+1,5,none⟩ (ii E)/\cl w' ⟨w.heap.size+1,6,none⟩ (ii F)/\cl w' ⟨w.heap.size+1,7,none⟩ zz/\cl w' ⟨w.heap.size+1,8,none⟩ zz/\cl w' ⟨w.heap.size+1,9,none⟩ zz/\cl w' (aq w.heap.size 11) (.slice f P h)/\cl w' (aq w.heap.size 12) (.slice i P j)) 14 [[0,1,2,3,4,5,6,7,8,10,11],[9],[12,13]] ⟨(uq ((a.drew).cell 0)),(uq ((a.drew).cell 1)),(uq ((a.drew).cell 2)),(uq ((a.drew).cell 3)),(uq ((a.drew).cell 4)),(uq ((a.drew).cell 5)),(uq ((a.drew).cell 6)),(uq ((a.drew).cell 7)),(uq ((a.drew).cell 8)),(uq ((a.drew).cell 9)),(uq ((n.drew).cell 11)),(uq ((n.drew).cell 12))⟩ ?_;simp only[PI];iterate 11 refine wG ?_
 refine JB rq fun K Q=>?_;go_wp2_with (refine X.mono ?_;clear X;rintro e w1 ⟨v1,rfl,Y,a3⟩);have b:kz k w1:=kq.drew.tO a3;have a0:=Ja j _ (ho.keep (l.tO b)) Z;obtain⟨a7,a8,rfl,_⟩:=XB Y;refine Q _ _ (⟨(uq ((a.kO b).cell 0)),(uq ((a.kO b).cell 1)),(uq ((a.kO b).cell 2)),(uq ((a.kO b).cell 3)),(uq ((a.kO b).cell 4)),(uq ((a.kO b).cell 5)),(uq ((a.kO b).cell 6)),(uq ((a.kO b).cell 7)),(uq ((a.kO b).cell 8)),(uq ((a.kO b).cell 9)),(uq ((n.kO b).cell 11)),(uq ((n.kO b).cell 12))⟩) ?_
 try simp only[Act.put,PU]
 refine JB rq fun K Q=>?_;go_wp2_with (refine a0.mono ?_;clear a0;rintro e w2 ⟨v2,rfl,a1,a2⟩);have c:kz k w2:=b.tO a2;obtain⟨a9,aa,rfl,_⟩:=XB a1;refine Q _ _ (⟨(uq ((a.kO c).cell 0)),(uq ((a.kO c).cell 1)),(uq ((a.kO c).cell 2)),(uq ((a.kO c).cell 3)),(uq ((a.kO c).cell 4)),(uq ((a.kO c).cell 5)),(uq ((a.kO c).cell 6)),(uq ((a.kO c).cell 7)),(uq ((a.kO c).cell 8)),(uq ((a.kO c).cell 9)),(uq ((n.kO c).cell 11)),(uq ((n.kO c).cell 12))⟩) ?_
 iterate 1 refine wG ?_
 refine VB ?_;have a4:=VC (QB Y a2) (show w.heap.size<=k.drew.heap.size from l.size);have a5:=VC a1 (show w.heap.size<=w1.heap.size from AB l.size b.size);go_wp2_with fail;go_ret;refine⟨_,_,_,rfl,AB l.size c.size,Blk.new _ _ _,XE a4 _,XE a5 _,(l.tO c).alloc _⟩
theorem ZAT (k v s b c e d:Int) {A A':Option Addr} {n':Nat} (m f:Nat) (xs:List UInt8) {w:World} (ha:Rd w A n (bys xs)) (g:Rd w A' n' (bys xs)) (l:n<=1000000) :
 cr 163 #[.agg #[ii k,ii v,ii s,ii b,ii c,ii e,ii d,.slice A n m],.agg #[ii k,ii v,ii s,ii b,ii c,ii e,ii d,.slice A' n' f]] w (.bool true):=by
 have i:xs.length=n:=uq ha.1
 have j:xs.length=n':=uq g.1
 have a:=fun W (h:kz w W)=>XAA m f xs xs (ha.keep h) (g.keep h) Z Z;simp only[decide_true] at a;clear i j;go_enter func163,ntmps163;go_wp2_with (refine(a _ ((kq.alloc _).alloc _)).mono ?_;clear a;rintro e w' ⟨rfl,k,rfl⟩);go_ret;exact⟨rfl,((kq.alloc _).alloc _).drewN _⟩
theorem ZAF {w:World} {base s d:Nat} {Fs:List Nat} {B:Nat} {S:PS} (h:StoreAt w base s d Fs B S) {A:Option Addr} (c:Nat) (ha:Rd w A 25 (bys (YG 8 S.st.view S.st.seq 0 0 S.st.epoch S.st.done [])))
 (hm:FrMay 8 S.st.view S.st.seq 0 0 S.st.epoch S.st.done []) :
 cr 52 #[.slice A 25 c,pq s] w (.bool true):=by
 have i:=Ke hm c ha;have j:=fun W (p:kz w W)=>JP (h.kO p);generalize S.st=st at *;obtain⟨mode,view,a,seq,b,q,r⟩:=st;simp only at i j hm;go_enter func52,ntmps52
 go_wp2_with (first
  | (go_at_call 148
     refine i.mono ?_;clear i;rintro e w1 ⟨f,g,rfl,y,t⟩;have k:=t.alloc (.cells #[ii ((8:Nat):Int),ii view,ii seq,ii ((0:Nat):Int),ii ((0:Nat):Int),ii a,ii b,.slice f 0 g] 211)
     have l:=j _ k)
  | (go_at_call 22
     refine l.mono ?_;clear l;rintro e z ⟨rfl,u⟩;have m:=u.alloc (.cells #[ii mode,ii view,ii a,ii seq,ii b,ii q,ii r,(YB S.us:Nat),(YBL S:Nat),(ZM S.I.ol:Nat)] 58);obtain⟨C,D,E,F,G,H,I,J⟩:=KB ((Blk.new w1 211 #[ii ((8:Nat):Int),ii view,ii seq,ii ((0:Nat):Int),ii ((0:Nat):Int),ii a,ii b,.slice f 0 g]).kO m)
     have o:∀ W,cr 163 #[.agg #[ii 8,ii view,ii seq,zz,zz,ii a,ii b,.slice f 0 g],.agg #[ii 8,ii view,ii seq,zz,zz,ii a,ii b,zn]] W (.bool true):=fun W=>ZAT 8 view seq 0 0 a b (A:=f) (A':=none) (n:=0) (n':=0) g 0 [] (w:=W) (Rd.nil _ _) (Rd.nil _ _) Z)
  | (go_at_call 163
     refine(o _).mono ?_;clear o;rintro e K ⟨rfl,v⟩))
 go_ret;exact⟨rfl,(k.tO m).tO v⟩
def ORow (w:World) (base:Nat) (v:Value) (o:Option (List UInt8)):Prop:=(o=none/\v=.slice none 0 0)\/∃ xs,o=some xs/\xs.length=64/\w.ownsRow base 5 1 v 64 (bys xs)
theorem ORow.keep {w w':World} {base:Nat} {l:List Nat} (h:ORow w base v o) (a:Keep l w w') (b:∀ g∈v.ownBlock.toList,g∉l):ORow w' base v o:=by
 rcases h with h | ⟨xs,c,d,e⟩
 . exact .inl h
 exact .inr ⟨xs,c,d,KA e a (fun g f=>b g (by simp[f]))⟩
theorem ORow.rd {w:World} {base:Nat} {xs:List UInt8} (h:ORow w base v (some xs)):∃ g c,v=.slice (some (aq g 0)) 64 c/\Rd w (some (aq g 0)) 64 (bys xs)/\xs.length=64/\64<=c:=by
 rcases h with⟨h,_⟩ | ⟨ys,b,d,a⟩
 . cases h
 cases b
 obtain⟨g,c,rfl,e⟩:=JI a Z;exact⟨g,c,rfl,Rd.of_own a,d,e⟩
theorem ORow.nil {w:World} {base:Nat} (h:ORow w base v none):v=.slice none 0 0:=by
 rcases h with⟨_,h⟩ | ⟨ys,a,_⟩
 . exact h
 cases a
theorem ORow.lt {w:World} {base:Nat} (h:ORow w base v o):∀ g∈v.ownBlock.toList,base<=g/\g<w.heap.size:=by
 rcases h with⟨_,rfl⟩ | ⟨ys,_,_,b⟩
 . intro g a;simp[Value.ownBlock] at a
 exact fun g a=>own_mem b a
structure IdlIs (w:World) (base i:Nat) (bv ov:Value) (bs:List (Value×List UInt8)) (os:List (Value×Option (List UInt8))) (F:List Nat) (I:PIdl):Prop where
 blk:Blk w i 97 #[bv,ov,ii I.ep,ii I.seq,ii I.done]
 brow:w.ownsRow base 66 1 bv bs.length (bs.map (·.1))
 orow:w.ownsRow base 66 1 ov os.length (os.map (·.1))
 bdat:∀ q∈bs,ORow w base q.1 (some q.2)
 odat:∀ q∈os,ORow w base q.1 q.2
 bsnd:bs.map (·.2)=I.base
 osnd:os.map (·.2)=I.over
 ne:bv.ownBlock≠ov.ownBlock
 foot:F=i :: (bv.ownBlock.toList++(ov.ownBlock.toList++(bs.flatMap (fun q=>q.1.ownBlock.toList)++os.flatMap (fun q=>q.1.ownBlock.toList))))
 base:base<=i
def IdlAt (w:World) (base i:Nat) (F:List Nat) (I:PIdl):Prop:=∃ bv ov bs os,IdlIs w base i bv ov bs os F I
namespace IdlIs
variable {w w':World} {base i:Nat} {bv ov:Value} {bs:List (Value×List UInt8)} {os:List (Value×Option (List UInt8))} {F l:List Nat} {I:PIdl}
theorem inI (h:IdlIs w base i bv ov bs os F I):i∈F:=by rw[h.foot];simp
theorem inB (h:IdlIs w base i bv ov bs os F I):∀ x∈bv.ownBlock.toList,x∈F:=fun x a=>by rw[h.foot];simp only[AL,AD];exact .inr (.inl a)
theorem inO (h:IdlIs w base i bv ov bs os F I):∀ x∈ov.ownBlock.toList,x∈F:=fun x a=>by rw[h.foot];simp only[AL,AD];exact .inr (.inr (.inl a))
theorem inBs (h:IdlIs w base i bv ov bs os F I) {q:Value×List UInt8} (a:q∈bs):∀ x∈q.1.ownBlock.toList,x∈F:=fun x b=>by
 rw[h.foot];simp only[AL,AD];exact .inr (.inr (.inr (.inl (Bs.2 ⟨q,a,b⟩))))
theorem inOs (h:IdlIs w base i bv ov bs os F I) {q:Value×Option (List UInt8)} (a:q∈os):∀ x∈q.1.ownBlock.toList,x∈F:=fun x b=>by
 rw[h.foot];simp only[AL,AD];exact .inr (.inr (.inr (.inr (Bs.2 ⟨q,a,b⟩))))
theorem keep (h:IdlIs w base i bv ov bs os F I) (b:Keep l w w') (ha:Apart F l):IdlIs w' base i bv ov bs os F I:=
 ⟨h.blk.keep b (ha _ h.inI),KA h.brow b (fun x a=>ha _ (h.inB x (by simp[a]))),KA h.orow b (fun x a=>ha _ (h.inO x (by simp[a]))),fun q c=>(h.bdat q c).keep b (fun x a=>ha _ (h.inBs c x a)),
   fun q c=>(h.odat q c).keep b (fun x a=>ha _ (h.inOs c x a)),h.bsnd,h.osnd,h.ne,h.foot,h.base⟩
theorem kO (h:IdlIs w base i bv ov bs os F I) (a:kz w w'):IdlIs w' base i bv ov bs os F I:=h.keep a Apart.nil_right
theorem mem (h:IdlIs w base i bv ov bs os F I) {x:Nat} (a:x∈F):x=i\/x∈bv.ownBlock.toList\/x∈ov.ownBlock.toList\/(∃ q∈bs,x∈q.1.ownBlock.toList)\/∃ q∈os,x∈q.1.ownBlock.toList:=by
 rw[h.foot] at a;simpa only[AL,AD,Bs] using a
theorem lt (h:IdlIs w base i bv ov bs os F I):∀ x∈F,base<=x/\x<w.heap.size:=fun x a=>by
 rcases h.mem a with rfl | a | a | ⟨q,hq,a⟩ | ⟨q,hq,a⟩
 . exact⟨h.base,h.blk.lt⟩
 . exact own_mem h.brow a
 . exact own_mem h.orow a
 . exact(h.bdat q hq).lt x a
 exact(h.odat q hq).lt x a
theorem blen (h:IdlIs w base i bv ov bs os F I):bs.length=I.base.length:=by rw[<- h.bsnd];simp
theorem olen (h:IdlIs w base i bv ov bs os F I):os.length=I.over.length:=by rw[<- h.osnd];simp
theorem bget (h:IdlIs w base i bv ov bs os F I) {k:Nat} (a:k<bs.length):I.base[k]? = some bs[k].2:=by rw[<- h.bsnd,Aa,AC a];rfl
theorem oget (h:IdlIs w base i bv ov bs os F I) {k:Nat} (a:k<os.length):I.over[k]? = some os[k].2:=by rw[<- h.osnd,Aa,AC a];rfl
theorem iB (h:IdlIs w base i bv ov bs os F I):i∉bv.ownBlock.toList:=fun hm=>own_blk_ne h.brow h.blk (by decide) (uq hm)
theorem iO (h:IdlIs w base i bv ov bs os F I):i∉ov.ownBlock.toList:=fun hm=>own_blk_ne h.orow h.blk (by decide) (uq hm)
end IdlIs
theorem ZBQ {a:Type} (l:List a) (b:Nat) (v:a):YU l b 0 v=l:=by
 apply By;intro x;rw[VU,AF Z]
theorem QBP {a:Type} (l:List a) (b m:Nat) (v:a) (h:b+m<l.length):YU l b (m+1) v=(YU l b m v).set (b+m) v:=by
 apply By;intro x;rw[VU,BW,VU,KZ];by_cases e:b+m=x
 . subst e
   rw[AJ rfl,AJ h,AJ Z]
 rw[AF e]
 by_cases c:b<=x/\x<b+m/\x<l.length
 . rw[AJ c,AJ Z]
 rw[AF c,AF Z]
def Zs (base:List (List UInt8)) (over:List (Option (List UInt8))) (m:Nat):List (List UInt8):=(VP base over).take m++base.drop m
def Qa (over:List (Option (List UInt8))) (m:Nat):List (Option (List UInt8)):=List.replicate m none++over.drop m
section
variable {base:List (List UInt8)} {over:List (Option (List UInt8))} {m:Nat} (h:base.length=over.length) (hm:m<=over.length)
include h hm
theorem Zm (x:Nat):(Zs base over m)[x]? = if x<m then (VP base over)[x]? else base[x]? := by
 have b:(VP base over).length=over.length:=by simp[VP,h]
 unfold Zs;rw[EF];simp only[BH,b];by_cases a:x<m
 . rw[AJ Z,AJ a,Bb,AJ a]
 rw[AF Z,AF a,BT]
 congr 1;omega
omit h hm in
theorem Jb (x:Nat):(Qa over m)[x]? = if x<m then some none else over[x]? := by
 unfold Qa;rw[EF];simp only[BD];by_cases hx:x<m
 . rw[AJ hx,AJ hx,Au,AJ hx]
 . rw[AF hx,AF hx,BT]
   congr 1;omega
theorem comAt_len:(Zs base over m).length=over.length/\(Qa over m).length=over.length:=by
 constructor
 . simp only[Zs,AE,BH,EC,VP,List.length_zipWith,h];omega
 simp only[Qa,AE,BD,EC];omega
end
theorem JBI {base:List (List UInt8)} {over:List (Option (List UInt8))} {m:Nat} (h:base.length=over.length) (hm:m<over.length) {xs:List UInt8} (ho:over[m]? = some (some xs)) :
 Zs base over (m+1)=(Zs base over m).set m xs/\Qa over (m+1)=(Qa over m).set m none:=by
 have b:base[m]? = some base[m]:=AC Z;constructor
 . apply By
   intro x;rw[Zm h Z,BW,Zm h Z,(comAt_len h Z).1];by_cases e:m=x
   . subst e
     rw[AJ Z,AJ rfl,AJ hm];unfold VP;rw[C3,b,ho];rfl
   rw[AF e]
   by_cases a:x<m
   . rw[AJ a,AJ Z]
   rw[AF a,AF Z]
 apply By
 intro x;rw[Jb,BW,Jb,(comAt_len h Z).2];by_cases e:m=x
 . subst e
   rw[AJ Z,AJ rfl,AJ hm]
 rw[AF e]
 by_cases a:x<m
 . rw[AJ a,AJ Z]
 rw[AF a,AF Z]
theorem KBK {base:List (List UInt8)} {over:List (Option (List UInt8))} {m:Nat} (h:base.length=over.length) (hm:m<over.length) (ho:over[m]? = some none) :
 Zs base over (m+1)=Zs base over m/\Qa over (m+1)=Qa over m:=by
 have b:base[m]? = some base[m]:=AC Z;constructor
 . apply By
   intro x;rw[Zm h Z,Zm h Z];by_cases e:m=x
   . subst e
     rw[AJ Z,AF Z];unfold VP;rw[C3,b,ho];rfl
   by_cases a:x<m
   . rw[AJ a,AJ Z]
   rw[AF a,AF Z]
 apply By
 intro x;rw[Jb,Jb];by_cases e:m=x
 . subst e
   rw[AJ Z,AF Z,ho]
 by_cases a:x<m
 . rw[AJ a,AJ Z]
 rw[AF a,AF Z]
theorem XBc {base:List (List UInt8)} {over:List (Option (List UInt8))} (h:base.length=over.length):Zs base over over.length=VP base over/\Qa over over.length=List.replicate over.length none:=by
 constructor
 . unfold Zs
   rw[AK (by simp[VP,h]),BL Z,Bg]
 unfold Qa
 rw[BL Z,Bg]
namespace IdlIs
variable {w w1:World} {base i:Nat} {bv ov:Value} {bs:List (Value×List UInt8)} {os:List (Value×Option (List UInt8))} {F:List Nat} {I:PIdl}
theorem row_ne {u:Value} {ys:List Value} (b:ORow w base v o) (c:w.ownsRow base 66 1 u n ys) (a:g∈v.ownBlock.toList):u.ownBlock≠some g:=by
 rcases b with⟨_,rfl⟩ | ⟨xs,_,_,d⟩
 . simp[Value.ownBlock] at a
 exact own_ne d c (by decide) (uq a)
theorem setO {d l:Nat} (h:IdlIs w base i bv (.slice (some d) n l) bs os F I) (r:kz w w1) {k:Nat} (m:ORow w1 base v o) :
 ∃ F',IdlIs (w1.setCell (aq d k) v) base i bv (.slice (some d) n l) bs (os.set k (v,o)) F' { I with over:=I.over.set k o }/\Keep [d] w1 (w1.setCell (aq d k) v)/\∀ x∈F',x∈F\/x∈v.ownBlock.toList:=by
 have a:=h.kO r;obtain rfl:n=os.length:=by obtain⟨_,_,e,_⟩:=XB a.orow;cases e;rfl
 have f:Keep [d] w1 (w1.setCell (aq d k) v):=(Keep.refl [d] w1).sc d k
 have j:∀ {u:Value} {p:Option (List UInt8)},ORow w1 base u p->∀ g∈u.ownBlock.toList,g∉[d]:=fun s g t hm=>by
  simp at hm;subst hm;exact row_ne s a.orow t (by simp[Value.ownBlock])
 refine⟨_,⟨a.blk.keep f (fun hm=>a.iO (by simp at hm;simp[Value.ownBlock,hm])),KA a.brow f (fun x b hm=>?_),?_,fun q c=>(a.bdat q c).keep f (j (a.bdat q c)),fun q c=>?_,a.bsnd,?_,a.ne,rfl,a.base⟩,f,fun x b=>?_⟩
 . simp at hm;subst hm
   exact a.ne (by rw[b];rfl)
 . have:=QW a.orow k v
   rw[Bl,Ci];exact this
 . rcases AS c with c | rfl
   . exact(a.odat q c).keep f (j (a.odat q c))
   exact m.keep f (j m)
 . rw[Ci,a.osnd]
 simp only[AL,AD,Bs] at b
 rcases b with b | b | b | ⟨q,c,b⟩ | ⟨q,c,b⟩
 . exact .inl (by subst b;exact h.inI)
 . exact .inl (h.inB x b)
 . exact .inl (h.inO x b)
 . exact .inl (h.inBs c x b)
 rcases AS c with c | rfl
 . exact .inl (h.inOs c x b)
 exact .inr b
theorem setB {d l:Nat} (h:IdlIs w base i (.slice (some d) n l) ov bs os F I) (o:kz w w1) {k:Nat} {xs:List UInt8} (m:ORow w1 base v (some xs)) :
 ∃ F',IdlIs (w1.setCell (aq d k) v) base i (.slice (some d) n l) ov (bs.set k (v,xs)) os F' { I with base:=I.base.set k xs }/\Keep [d] w1 (w1.setCell (aq d k) v)/\∀ x∈F',x∈F\/x∈v.ownBlock.toList:=by
 have a:=h.kO o;obtain rfl:n=bs.length:=by obtain⟨_,_,e,_⟩:=XB a.brow;cases e;rfl
 have f:Keep [d] w1 (w1.setCell (aq d k) v):=(Keep.refl [d] w1).sc d k
 have j:∀ {u:Value} {p:Option (List UInt8)},ORow w1 base u p->∀ g∈u.ownBlock.toList,g∉[d]:=fun r g s hm=>by
  simp at hm;subst hm;exact row_ne r a.brow s (by simp[Value.ownBlock])
 refine⟨_,⟨a.blk.keep f (fun hm=>a.iB (by simp at hm;simp[Value.ownBlock,hm])),?_,KA a.orow f (fun x b hm=>?_),fun q c=>?_,fun q c=>(a.odat q c).keep f (j (a.odat q c)),?_,a.osnd,a.ne,rfl,a.base⟩,f,fun x b=>?_⟩
 . have:=QW a.brow k v
   rw[Bl,Ci];exact this
 . simp at hm;subst hm
   exact a.ne (by rw[b];rfl)
 . rcases AS c with c | rfl
   . exact(a.bdat q c).keep f (j (a.bdat q c))
   exact m.keep f (j m)
 . rw[Ci,a.bsnd]
 simp only[AL,AD,Bs] at b
 rcases b with b | b | b | ⟨q,c,b⟩ | ⟨q,c,b⟩
 . exact .inl (by subst b;exact h.inI)
 . exact .inl (h.inB x b)
 . exact .inl (h.inO x b)
 . rcases AS c with c | rfl
   . exact .inl (h.inBs c x b)
   exact .inr b
 exact .inl (h.inOs c x b)
theorem setN (h:IdlIs w base i bv ov bs os F I) (ep seq d:Nat) (k:Blk w1 i 97 #[bv,ov,ii ep,ii seq,ii d]) (a:Keep [i] w w1):IdlIs w1 base i bv ov bs os F { I with ep:=ep,seq:=seq,done:=d }:=by
 have e:∀ {u:Value} {p:Option (List UInt8)},ORow w base u p->ORow w1 base u p:=fun f=>f.keep a (fun g j hm=>by
  simp at hm;subst hm;rcases f with⟨_,rfl⟩ | ⟨xs,_,_,l⟩
  . simp[Value.ownBlock] at j
  exact own_blk_ne l h.blk (by decide) (uq j))
 exact⟨k,KA h.brow a (fun x b hm=>h.iB (by simp at hm;subst hm;simpa using b)),KA h.orow a (fun x b hm=>h.iO (by simp at hm;subst hm;simpa using b)),fun q c=>e (h.bdat q c),fun q c=>e (h.odat q c),h.bsnd,h.osnd,h.ne,h.foot,h.base⟩
theorem cells (h:IdlIs w base i bv ov bs os F I):cl w i bv/\cl w (aq i 1) ov/\cl w (aq i 2) (ii I.ep)/\cl w (aq i 3) (ii I.seq)/\cl w (aq i 4) (ii I.done):=
 ⟨uq (h.blk.cell 0),uq (h.blk.cell 1),uq (h.blk.cell 2),uq (h.blk.cell 3),uq (h.blk.cell 4)⟩
end IdlIs
def Vx (I:PIdl) (k b c e n:Nat):Prop:=(k=1/\b<I.base.length/\c=0/\e=0/\n=64)\/(k=2/\1<=c/\b+c<=I.base.length/\e=0/\n=0)\/(k=3/\b=0/\c=0/\e=I.ep+1/\n=0)
theorem VAJ {w:World} {base i:Nat} {bv ov:Value} {bs:List (Value×List UInt8)} {os:List (Value×Option (List UInt8))} {F:List Nat} {I:PIdl} (h:IdlIs w base i bv ov bs os F I) (C:1<=I.base.length/\I.base.length<=64) (G:I.ep<=1000000) {k b c e:Nat} (m:Nat) (A:Option Addr) (j:Vx I k b c e n) :
 cr 158 #[pq i,.agg #[ii k,ii b,ii c,ii e,.slice A n m]] w (.bool true):=by
 obtain⟨H,J,rfl,_⟩:=XB h.brow;have hlen:=h.blen;obtain⟨L,s⟩:=ex bs.length;rw[<- s] at hlen h;unfold Vx at j;rw[<- hlen] at j C;have d:=fun W (D:kz w W)=>(h.kO D).cells;generalize I.ep=ep at *;clear h s hlen;rcases j with⟨rfl,E,rfl,rfl,rfl⟩ | ⟨rfl,E,K,rfl,rfl⟩ | ⟨rfl,rfl,rfl,rfl,rfl⟩
 . show Calls prog 158 #[pq i,.agg #[ii 1,ii b,zz,zz,.slice A 64 m]] w _
   have a:kz w (w.alloc (.cells #[ii 1,ii b,zz,zz,.slice A 64 m] 95)):=kq.alloc _;have f:=Blk.new w 95 #[ii 1,ii b,zz,zz,.slice A 64 m];obtain⟨t,l,o,p,q⟩:=ZE f;obtain⟨u,v,r,y,z⟩:=d _ a;clear d;have g:=fun W=>JD (b:Nat) 0 ((L:Nat)-1) true (by simp;omega) W;go_enter func158,ntmps158;go_wp2_with (refine(g _).mono ?_;clear g;rintro e w' ⟨rfl,rfl⟩);go_ret;exact⟨rfl,a⟩
 . show Calls prog 158 #[pq i,.agg #[ii 2,ii b,ii c,zz,.slice A 0 m]] w _
   have a:kz w (w.alloc (.cells #[ii 2,ii b,ii c,zz,.slice A 0 m] 95)):=kq.alloc _;have f:=Blk.new w 95 #[ii 2,ii b,ii c,zz,.slice A 0 m];obtain⟨t,l,o,p,q⟩:=ZE f;obtain⟨u,v,r,y,z⟩:=d _ a;clear d;have g:=fun W=>JD (b:Nat) 0 ((L:Nat)-1) true (by simp;omega) W;have B:=fun W=>JD (c:Nat) 1 ((L:Nat)-(b:Nat)) true (by simp;omega) W;go_enter func158,ntmps158
   go_wp2_with (first
    | ((with_reducible refine(g _).mono ?_);clear g;rintro e w' ⟨rfl,rfl⟩)
    | ((with_reducible refine(B _).mono ?_);clear B;rintro e w' ⟨rfl,rfl⟩))
   go_ret;exact⟨rfl,a⟩
 rw[show ((ep+1:Nat):Int)=((ep:Nat):Int)+1 from Z]
 show Calls prog 158 #[pq i,.agg #[ii 3,zz,zz,ii (((ep:Nat):Int)+1),.slice A 0 m]] w _;have a:kz w (w.alloc (.cells #[ii 3,zz,zz,ii (((ep:Nat):Int)+1),.slice A 0 m] 95)):=kq.alloc _;have f:=Blk.new w 95 #[ii 3,zz,zz,ii (((ep:Nat):Int)+1),.slice A 0 m];obtain⟨t,l,o,p,q⟩:=ZE f;obtain⟨u,v,r,y,z⟩:=d _ a;clear d;have M:IntKind.i64.wrap (((ep:Nat):Int)+1)=((ep:Nat):Int)+1:=by rw[AI];omega
 go_enter func158,ntmps158;go_wp2_with fail;refine ZT (fun w'=>cl w' (aq w.heap.size 1) zz/\cl w' (aq w.heap.size 2) zz/\cl w' (aq w.heap.size 3) (ii (((ep:Nat):Int)+1))/\cl w' (aq w.heap.size 4) (.slice A 0 m)/\cl w' (aq i 2) (ii ep)) 16 [[0,1,2,3,4,5,6,7,8,9,10,11,12,13,14,15]] ⟨l,o,p,q,r⟩ ?_;simp only[PI];iterate 16 refine wG ?_
 refine VB ?_;go_wp2_with fail;go_ret;exact⟨rfl,a.drew⟩
theorem QAM {w:World} {base i:Nat} {bv ov:Value} {bs:List (Value×List UInt8)} {os:List (Value×Option (List UInt8))} {F:List Nat} {I:PIdl} (h:IdlIs w base i bv ov bs os F I) (hlen:bs.length=os.length) (u:bs.length<=64) (b:Nat) (c:b<bs.length) :
 Calls prog 162 #[pq i,b] w fun e w'=>∃ d f,e=.returned (.slice d 64 f)/\Rd w d 64 (bys ((I.over.getD b none).getD (I.base.getD b [])))/\64<=f/\w=w':=by
 obtain⟨j,J,rfl,_,_⟩:=YD h.brow Z;obtain⟨l,K,rfl,_,_⟩:=YD h.orow Z;obtain⟨v,y,M,N,O⟩:=h.cells;have Q:w.cell? (aq j b)=some bs[b].1:=YI h.brow (by rw[Aa,AC c];rfl);have R:cl w (aq l b) (os[b]' Z).1:=YI h.orow (by rw[Aa,AC Z];rfl);have z:=h.bdat _ (AN c);have m:=h.odat _ (AN (n:=b) Z);have o:=h.bget c;have p:=h.oget (k:=b) Z
 have q:(I.over.getD b none).getD (I.base.getD b [])=(os[b]' Z).2.getD bs[b].2:=by
  rw[AA,p,AA,o];rfl
 rw[q];clear q o p;have S:=(own_mem h.brow (g:=j) (by simp[Value.ownBlock])).2;have T:=(own_mem h.orow (g:=l) (by simp[Value.ownBlock])).2;have a:=fun W=>JD (b:Nat) 0 ((bs.length:Nat)-1) true (by simp;omega) W;obtain⟨L,r⟩:=ex bs.length;have s:os.length=L:=Z
 rw[s] at y;rw[<- r] at v a u;have U:((b:Nat):Int)<(L:Nat):=Z
 generalize bs[b]=q1 at *;generalize os[b]'_=q2 at *;obtain⟨V,X⟩:=q1;obtain⟨Y,t⟩:=q2;obtain⟨g1,u1,rfl,A,a0,B⟩:=z.rd;clear h r s hlen c;rcases t with _ | t
 . obtain rfl:=m.nil
   have C:=fun(W:World)=>CR (P:=prog) W 66 5 none 0 0 0 0 underlying66;go_enter func162,ntmps162;go_wp2_with (refine(a _).mono ?_;clear a;rintro e w' ⟨rfl,rfl⟩);go_ret;exact⟨_,_,rfl,A,B,rfl⟩
 obtain⟨D,E,rfl,G,a1,H⟩:=m.rd
 have C:=fun(W:World)=>CR (P:=prog) W 66 5 (some D) 64 E 0 0 underlying66;go_enter func162,ntmps162;go_wp2_with (refine(a _).mono ?_;clear a;rintro e w' ⟨rfl,rfl⟩);go_ret;exact⟨_,_,rfl,G,H,rfl⟩
theorem elem8M:ElemN prog 66 5 (.int .u8 0) 1 1:=ElemN.of underlying66 (by kernel_rfl) rfl Z
def QBg (w:World) (base i:Nat) (F:List Nat) (I:PIdl) (e:Ending) (w':World):Prop:=e=.returned (.bool true)/\∃ F',IdlAt w' base i F' I/\Keep F w w'/\∀ x∈F',x∈F\/w.heap.size<=x
theorem KAm {w:World} {base i:Nat} {F:List Nat} {I:PIdl} (h:IdlAt w base i F I) (bi:1<=I.base.length/\I.base.length<=64) (hlen:I.base.length=I.over.length) (bj:I.ep<=1000000) (cc:I.seq<=1000000) {k b c e:Nat} (m:Nat) {A:Option Addr} (xs:List UInt8) (ha:Rd w A n (bys xs)) (hm:n<=m) (hf:Vx I k b c e n) :
 Calls prog 47 #[pq i,.agg #[ii k,ii b,ii c,ii e,.slice A n m]] w (QBg w base i F (I.step ⟨k,b,c,e,xs⟩)):=by
 obtain⟨bv,ov,bs,os,h⟩:=h;have Y:=h.blen;have J:=h.olen;obtain⟨r,cb,rfl,_,_⟩:=YD h.brow Z;obtain⟨d,co,rfl,_,_⟩:=YD h.orow Z;have a0:kz w (w.alloc (.cells #[ii k,ii b,ii c,ii e,.slice A n m] 95)):=kq.alloc _;have ae:=Blk.new w 95 #[ii k,ii b,ii c,ii e,.slice A n m];have a1:=fun W (hk:kz w W)=>VAJ (h.kO hk) bi bj m A hf;have b2:xs.length=n:=uq ha.1
 have bk:i≠r:=fun e=>h.iB (by simp[Value.ownBlock,e]);have al:i≠d:=fun e=>h.iO (by simp[Value.ownBlock,e]);have bl:r≠d:=fun e=>h.ne (by simp[Value.ownBlock,e]);have a2:=fun x a=>(h.lt x a);have b3:base<=w.heap.size:=by have:=h.base;have:=h.blk.lt;omega
 have a8:=h.inI;have b4:r∈F:=h.inB r (by simp[Value.ownBlock]);have a3:d∈F:=h.inO d (by simp[Value.ownBlock]);obtain⟨D,B,E,G,C⟩:=ZE ae;have b5:=ZB b2;have bm:=ZB Y;have af:=ZB J;clear b2 Y J;rcases hf with⟨rfl,h1,rfl,rfl,rfl⟩ | ⟨rfl,h1,h2,rfl,rfl⟩ | ⟨rfl,rfl,rfl,rfl,rfl⟩
 . go_enter func47,ntmps47
   go_wp2_with (
    (refine(a1 _ a0).mono ?_)
    clear a1 D B E G C;rintro e w1 ⟨rfl,M⟩;have H:=ae.kO M;have t:=a0.tO M;have bn:=h.kO t;obtain⟨am,a9,c2,b6,c4⟩:=bn.cells;obtain⟨D,B,E,G,C⟩:=ZE H)
   have b7:=Yl m xs 0 64 ((ha.keep t).drew) Z Z Z hm Z;refine ZT (fun w'=>cl w' (aq i 1) (.slice (some d) os.length co)/\cl w' (aq w.heap.size 1) (ii b)/\cl w' (aq w.heap.size 4) (.slice A 64 m)) 9 [[0,1,2,3,4,5,6,7],[8]] ⟨a9,B,C⟩ ?_;simp only[PI];iterate 8 refine wG ?_
   refine JB rq fun K an=>?_;go_wp2_with (refine b7.mono ?_;clear b7;rintro e N ⟨u,rfl,hu,ag⟩);have a4:=t.drew.tO ag;obtain⟨d1,d2,d3,d4,d5⟩:=(h.kO a4).cells;obtain⟨p0,p1,p2,p3,p4⟩:=ZE (H.kO ((Keep.refl [] w1).drew.tO ag));have bo:b<os.length:=by rw[ZA af];omega
   obtain⟨ao,uc,rfl,_⟩:=XB hu;have bp:cl N (aq d b) (os[b]).1:=YI (h.kO a4).orow (by rw[Aa,AC bo];rfl);refine an _ _ (⟨d2,p1,p4⟩) ?_
   try simp only[Act.put,PU]
   have aa:d≠w.heap.size:=fun e=>by have:=a2 d a3;omega
   have ap:w.heap.size≠d:=fun e=>aa e.symm;have b8:d≠i:=fun e=>al e.symm;have bq:=XJ (h.kO a4).orow b;have b9:=(h.kO a4).blk.frozen 3;have ba:IntKind.i64.wrap (((I.seq:Nat):Int)+1)=((I.seq:Nat):Int)+1:=by rw[AI];omega
   refine VB ?_;go_wp2_with fail;go_ret
   have ab:ORow N base (.slice ao 64 uc) (some xs):=.inr ⟨xs,rfl,uq (ZA b5),by
    have:=VC hu (AB b3 (t.drew).size);simpa [AK (Ar (ZA b5))] using this⟩
   obtain⟨ac,h2,ah,ar⟩:=h.setO a4 (k:=b) ab;have ad:=h2.blk.set 3 (.int .i64 ((I.seq+1:Nat):Int));have O:Keep [i] (N.setCell (aq d b) (.slice ao 64 uc)) ((N.setCell (aq d b) (.slice ao 64 uc)).setCell (aq i 3) (.int .i64 ((I.seq+1:Nat):Int))):=(Keep.refl [i] _).sc i 3;have R:=h2.setN I.ep (I.seq+1) I.done (uq ad) O;refine⟨rfl,ac,⟨_,_,_,_,by simpa [PIdl.step] using R⟩,((((Keep.refl F w).tO a4).trans ah (fun y j=>.inl (by simp at j;subst j;exact a3))).trans O (fun y j=>.inl (by simp at j;subst j;exact a8))),fun x a=>?_⟩;rcases ar x a with a | a
   . exact .inl a
   exact .inr (AB (t.drew).size (JAL hu x a))
 . have aa:d≠w.heap.size:=fun e=>by have:=a2 d a3;omega
   have ap:w.heap.size≠d:=fun e=>aa e.symm;have b8:d≠i:=fun e=>al e.symm;have au:i≠w.heap.size:=fun e=>by have:=a2 i a8;omega
   have br:w.heap.size≠i:=fun e=>au e.symm;have cd:c<=64:=Z
   have ba:IntKind.i64.wrap (((I.seq:Nat):Int)+1)=((I.seq:Nat):Int)+1:=by rw[AI];omega
   go_enter func47,ntmps47
   go_wp2_with (
    (refine(a1 _ a0).mono ?_)
    clear a1 D B E G C;rintro e w1 ⟨rfl,M⟩;have H:=ae.kO M;have t:=a0.tO M;obtain⟨D,B,E,G,C⟩:=ZE H)
   go_loopw [5] (fun S wr=>∃ (q:Nat) (l:List (Value×Option (List UInt8))) (F':List Nat),q<=c/\S=.int .i64 (q:Nat)/\IdlIs wr base i (.slice (some r) bs.length cb) (.slice (some d) os.length co) bs l F' { I with over:=YU I.over b q (some zeros64) }/\Keep F w wr/\Blk wr w.heap.size 95 #[ii 2,ii b,ii c,zz,.slice A 0 m]/\(∀ x∈F',x∈F\/w.heap.size<=x)) (fun S _=>c-(intOf S).toNat)
   case atStart=>exact⟨0,os,F,AP _,rfl,by rw[ZBQ];exact h.kO t,(Keep.refl F w).tO t,H,fun x a=>.inl a⟩
   clear D B E G C H t;obtain⟨q,l,F',hq,rfl,f,P,T,U⟩:=hrel;obtain⟨am,a9,c2,b6,c4⟩:=f.cells;obtain⟨D,B,E,G,C⟩:=ZE T;by_cases bt:q<c
   . have bu:b+q<l.length:=by
      have:=f.olen;simp only[KZ] at this;have:=ZA af;omega
     go_wp2_with fail;refine ZT (fun w'=>cl w' (aq i 1) (.slice (some d) os.length co)/\cl w' (aq w.heap.size 1) (ii b)) 9 [[0,1,2,3,4,5,6,7],[8]] ⟨a9,B⟩ ?_;simp only[PI];iterate 8 refine wG ?_
     refine JB rq fun K an=>?_;refine elem8M.wp1_make _ _ rfl .i64 .i64 64 rfl rfl Z Z ?_;intro N g2 bb ce bw ag;have a5:kz wr N:=(Keep.refl [] wr).drew.tO ag;obtain⟨d1,d2,d3,d4,d5⟩:=(f.kO a5).cells;obtain⟨p0,p1,p2,p3,p4⟩:=ZE (T.kO a5);have J:os.length=l.length:=by obtain⟨_,_,e,_⟩:=XB f.orow;injection e
     have Q:=(f.kO a5).orow;rw[J] at Q;have bp:cl N (aq d (b+q)) (l[b+q]).1:=YI Q (by rw[Aa,AC bu];rfl);have bq:=XJ Q (b+q);clear Q;have cf:b+q<os.length:=Z
     have ch:IntKind.i64.wrap (((b:Nat):Int)+(q:Nat))=((b:Nat):Int)+(q:Nat):=by rw[AI];omega
     have ci:IntKind.i64.wrap (((q:Nat):Int)+1)=((q:Nat):Int)+1:=by rw[AI];omega
     have cj:(((b:Nat):Int)+(q:Nat)).toNat=b+q:=Z
     have hz:=JN (e:=5) (s:=1) (z:=.int .u8 0) (n:=64) (m:=64) (xs:=bys zeros64) (base:=base) bw Z (by rw[bb];exact AB b3 (uq P.size)) Z (by simp[bys,by8,zeros64]) rfl;refine an _ _ (⟨d2,p1⟩) ?_
     try simp only[Act.put,PU]
     refine VB ?_;go_wp2_with fail;go_roundw
     case rel=>
      have ab:ORow N base (.slice (some (aq wr.heap.size 0)) 64 64) (some zeros64):=.inr ⟨zeros64,rfl,by simp[zeros64],by simpa [bb] using hz⟩;obtain⟨ac,h2,ah,ar⟩:=f.setO a5 (k:=b+q) ab;refine⟨q+1,l.set (b+q) (.slice (some (aq wr.heap.size 0)) 64 64,some zeros64),ac,Z,by go_num,?_,(P.tO a5).trans ah (fun y j=>.inl (by simp at j;subst j;exact a3)),(T.kO a5).keep ah (by simp;omega),fun x a=>?_⟩
      . rw[QBP _ _ _ _ (by have:=ZA af;omega)]
        exact h2
      rcases ar x a with a | a
      . exact U x a
      simp[Value.ownBlock] at a
      subst a;exact .inr P.size
     case measure=>simp[intOf];omega
   obtain rfl:q=c:=Z
   have b9:=f.blk.frozen 3;go_wp2_with fail;go_ret;have ad:=f.blk.set 3 (.int .i64 ((I.seq+1:Nat):Int));have O:Keep [i] wr (wr.setCell (aq i 3) (.int .i64 ((I.seq+1:Nat):Int))):=(Keep.refl [i] _).sc i 3;have R:=f.setN I.ep (I.seq+1) I.done (uq ad) O;exact⟨rfl,F',⟨_,_,_,_,by simpa [PIdl.step] using R⟩,P.trans O (fun y j=>.inl (by simp at j;subst j;exact a8)),U⟩
 have aa:d≠w.heap.size:=fun e=>by have:=a2 d a3;omega
 have ap:w.heap.size≠d:=fun e=>aa e.symm;have bx:r≠w.heap.size:=fun e=>by have:=a2 r b4;omega
 have bz:w.heap.size≠r:=fun e=>bx e.symm;have b8:d≠i:=fun e=>al e.symm;have ck:r≠i:=fun e=>bk e.symm;have cm:d≠r:=fun e=>bl e.symm;have au:i≠w.heap.size:=fun e=>by have:=a2 i a8;omega
 have br:w.heap.size≠i:=fun e=>au e.symm;have ba:IntKind.i64.wrap (((I.seq:Nat):Int)+1)=((I.seq:Nat):Int)+1:=by rw[AI];omega
 obtain⟨L,ai⟩:=ex bs.length;have av:L=I.base.length:=by rw[ai];exact ZA bm
 have bc:os.length=L:=by rw[av,hlen];exact ZA af
 have cn:=ZB ai;have aw:=ZB av;rw[bc,<- ai] at h;clear ai bc av;have cp:L<=64:=by have:=ZA aw;omega
 go_enter func47,ntmps47
 go_wp2_with (
  (refine(a1 _ a0).mono ?_)
  clear a1 D B E G C;rintro e w1 ⟨rfl,M⟩;have H:=ae.kO M;have t:=a0.tO M;obtain⟨D,B,E,G,C⟩:=ZE H)
 go_loopw [6] (fun S wr=>∃ (q:Nat) (a6:List (Value×List UInt8)) (l:List (Value×Option (List UInt8))) (F':List Nat),q<=L/\S=.int .i64 (q:Nat)/\IdlIs wr base i (.slice (some r) L cb) (.slice (some d) L co) a6 l F' { I with base:=Zs I.base I.over q,over:=Qa I.over q }/\Keep F w wr/\Blk wr w.heap.size 95 #[ii 3,zz,zz,ii ((I.ep+1:Nat):Int),.slice A 0 m]/\(∀ x∈F',x∈F\/w.heap.size<=x)) (fun S _=>L-(intOf S).toNat)
 case atStart=>exact⟨0,bs,os,F,AP _,rfl,by simpa [Zs,Qa] using h.kO t,(Keep.refl F w).tO t,H,fun x a=>.inl a⟩
 clear D B E G C H t;obtain⟨q,a6,l,F',hq,rfl,f,P,T,U⟩:=hrel;obtain⟨am,a9,c2,b6,c4⟩:=f.cells;obtain⟨D,B,E,G,C⟩:=ZE T;by_cases bt:q<L
 . have J:L=l.length:=by obtain⟨_,_,e,_⟩:=XB f.orow;injection e
   have Y:L=a6.length:=by obtain⟨_,_,e,_⟩:=XB f.brow;injection e
   have aj:q<l.length:=Z
   have bd:I.base.length=I.over.length:=hlen;have bf:q<I.over.length:=by have:=ZA aw;omega
   have ax:(Qa I.over q)[q]? = some l[q].2:=f.oget aj;have ab:=f.odat _ (AN aj);have a7:I.over[q]? = some l[q].2:=by rw[<- ax,Jb];simp
   have Q:=f.orow;rw[J] at Q;have ay:wr.cell? (aq d q)=some l[q].1:=YI Q (by rw[Aa,AC aj];rfl);clear Q;rcases ab with⟨hn,hv⟩ | ⟨ys,hs,hl,az⟩
   . rw[hv] at ay
     rw[hn] at a7;obtain⟨V,X⟩:=KBK bd bf a7;have b0:=ZB V;have b1:=ZB X;clear V X ax hn hv a7 J Y;go_wp2_with fail;go_roundw;case rel=>exact⟨q+1,a6,l,F',Z,by go_num,by rw[ZA b0,ZA b1];exact f,P,T,U⟩
     case measure=>simp[intOf];omega
   obtain⟨g,cg,hv,_,_⟩:=YD az Z
   have c5:g∈F':=f.inOs (AN aj) g (by rw[hv];simp[Value.ownBlock]);rw[hv] at ay az;rw[hs] at a7;obtain⟨V,X⟩:=JBI bd bf a7;have ak:=f.brow;rw[Y] at ak;have c6:q<a6.length:=Z
   obtain⟨cq,cr⟩:∃ u,cl wr (aq r q) u:=⟨_,YI ak (by rw[Aa,AC c6];rfl)⟩;have cs:=XJ ak q;have ct:=XJ (by have:=f.orow;rwa [J] at this) q;have b0:=ZB V;have b1:=ZB X;clear V X ax hs hv a7 J Y ak;go_wp2_with fail;refine ZT (fun w'=>cl w' i (.slice (some r) L cb)/\cl w' (aq i 1) (.slice (some d) L co)/\cl w' (aq d q) (.slice (some g) 64 cg)) 12 [[0,1,2,3,4,5,6,7,8,9,10,11]] ⟨am,a9,ay⟩ ?_;simp only[PI];iterate 12 refine wG ?_
   refine VB ?_;go_wp2_with fail;go_roundw
   case rel=>
    obtain⟨cu,c7,bg,c8⟩:=f.setB (Keep.refl [] wr) (k:=q) (.inr ⟨ys,rfl,hl,az⟩);obtain⟨ac,c9,bh,ca⟩:=c7.setO (Keep.refl [] _) (k:=q) (v:=.slice none 0 0) (o:=none) (.inl ⟨rfl,rfl⟩);refine⟨q+1,a6.set q (.slice (some g) 64 cg,ys),l.set q (.slice none 0 0,none),ac,Z,by go_num,?_,?_,?_,fun x a=>?_⟩
    . rw[ZA b0,ZA b1]
      exact c9.kO (Keep.refl [] _).drew
    . exact((P.trans bg (fun y j=>.inl (by simp at j;subst j;exact b4))).trans bh (fun y j=>.inl (by simp at j;subst j;exact a3))).drew
    . exact((T.keep bg (by simp[bz])).keep bh (by simp[ap])).kO (Keep.refl [] _).drew
    rcases ca x a with a | a
    . rcases c8 x a with a | a
      . exact U x a
      simp[Value.ownBlock] at a
      subst a;exact U _ c5
    simp[Value.ownBlock] at a
   case measure=>simp[intOf];omega
 obtain rfl:q=L:=Z
 have b9:=f.blk.frozen 2;have cv:=f.blk.frozen 3;have cw:=f.blk.frozen 4;go_wp2_with fail;go_ret;have ad:=((f.blk.set 2 (.int .i64 ((I.ep+1:Nat):Int))).set 3 (.int .i64 ((I.seq+1:Nat):Int))).set 4 (.int .i64 ((I.seq+1:Nat):Int));have O:=(((Keep.refl [i] wr).setCell (p:=⟨i,2,none⟩) (.inl sq) (.int .i64 ((I.ep+1:Nat):Int))).setCell (p:=⟨i,3,none⟩) (.inl sq) (.int .i64 ((I.seq+1:Nat):Int))).setCell (p:=⟨i,4,none⟩) (.inl sq) (.int .i64 ((I.seq+1:Nat):Int));obtain⟨V,X⟩:=XBc hlen;have R:=f.setN (I.ep+1) (I.seq+1) (I.seq+1) (uq ad) O;have eq:q=I.over.length:=by have:=ZA aw;omega
 rw[eq] at R;simp only[V,X] at R;exact⟨rfl,F',⟨_,_,_,_,by simpa [PIdl.step] using R⟩,P.trans O (fun y j=>.inl (by simp at j;subst j;exact a8)),U⟩
theorem elemRowsM:ElemN prog 69 66 (.slice none 0 0) 1 24:=ElemN.of underlying69 (by kernel_rfl) rfl Z
theorem Jg {w:World} {t:TypeId} {a b c d e:Value} (h:Blk w g t #[a,b,c,d,e]):cl w g a/\cl w (aq g 1) b/\cl w (aq g 2) c/\cl w (aq g 3) d/\cl w (aq g 4) e:=
 ⟨uq (h.cell 0),uq (h.cell 1),uq (h.cell 2),uq (h.cell 3),uq (h.cell 4)⟩
theorem QAW (n:Nat) (h0:1<=n) (hn:n<=64) (w:World) :
 Calls prog 44 #[n] w fun e w'=>∃ i F,e=.returned (pq i)/\IdlAt w' w.heap.size i F (PIdl.new n)/\kz w w':=by
 have E:=fun W=>JD (n:Nat) 1 64 true (by simp;omega) W;go_enter func44,ntmps44
 go_wp2_with (first
  | (go_at_call 147;refine(E _).mono ?_;clear E;rintro e w' ⟨rfl,rfl⟩)
  | (at_make;refine elemRowsM.wp_make rfl _ _ rfl .i64 .i64 n rfl rfl Z Z ?_;intro w1 g1 Y G H I;subst Y))
 have J:w1.ownsRow w.heap.size 66 1 (.slice (some w.heap.size) n n) n (List.replicate n (.slice none 0 0)):=JN (e:=66) (s:=1) (z:=.slice none 0 0) H Z Z Z sq rfl;have p:=Blk.new w1 97 #[zn,.slice (some w.heap.size) n n,zz,zz,zz];have L:kz w (w1.alloc (.cells #[zn,.slice (some w.heap.size) n n,zz,zz,zz] 97)):=I.alloc _;have M:=XE J (.cells #[zn,.slice (some w.heap.size) n n,zz,zz,zz] 97);generalize N:w1.alloc (.cells #[zn,.slice (some w.heap.size) n n,zz,zz,zz] 97)=wA at *;rw[G] at p;clear J I G H;obtain⟨d,r⟩:=ex (w.heap.size+1);rw[<- r] at p;go_wp2_with fail
 try rw[N]
 try rw[<- r]
 clear N;have O:=ZB r;clear r
 go_loopw [4] (fun i wr=>∃ (k:Nat) (S:Value) (h:List Value),k<=n/\i=.int .i64 (k:Nat)/\Blk wr d 97 #[S,.slice (some w.heap.size) n n,zz,zz,zz] /\
  wr.ownsRow w.heap.size 66 1 S k h/\wr.ownsRow w.heap.size 66 1 (.slice (some w.heap.size) n n) n (List.replicate n (.slice none 0 0))/\w.heap.size∉S.ownBlock.toList/\Hid (∀ v∈h,wr.ownsRow w.heap.size 5 1 v 64 (bys zeros64))/\kz w wr) (fun i _=>n-(intOf i).toNat)
 case atStart=>exact⟨0,.slice none 0 0,[],AP _,rfl,p,AZ _ _ _ _,M,by simp[Value.ownBlock],(by show ∀ v∈([]:List Value),_;intro v a;cases a),L⟩
 clear p M L;obtain⟨k,S,h,hk,rfl,f,j,t,u,P,y⟩:=hrel;obtain⟨a0,ah,c2,ai,c4⟩:=Jg f;by_cases aj:k<n
 . have ak:((k:Nat):Int)<(n:Nat):=Z
   go_wp2_with fail;refine ZT (fun w'=>cl w' (aq d 0) S) 8 [[0,1,2,3,4],[5],[6],[7]] a0 ?_;simp only[PI];iterate 5 refine wG ?_
   refine JB rq fun K o=>?_;refine elem8M.wp1_make _ _ rfl .i64 .i64 64 rfl rfl Z Z ?_;intro l g2 a1 a2 a3 a4;obtain rfl:g2=wr.heap.size:=a1;clear a2;have Q:kz wr l:=kq.drew.tO a4;have a5:l.ownsRow w.heap.size 5 1 (.slice (some (aq wr.heap.size 0)) 64 64) 64 (bys zeros64):=JN (e:=5) (s:=1) (z:=.int .u8 0) a3 Z y.size Z (by simp[bys,by8,zeros64]) rfl;refine o _ _ ((Jg (f.kO Q)).1) ?_
   try simp only[Act.put,PU]
   refine JB rq fun K o=>?_;go_wp2_with fail;have a6:=XS l (Value.slice (some (aq wr.heap.size 0)) 64 64) 66;have c:kz wr (l.alloc (.cells #[Value.slice (some (aq wr.heap.size 0)) 64 64] 66)):=Q.alloc _;have a7:=XE a5 (.cells #[Value.slice (some (aq wr.heap.size 0)) 64 64] 66);generalize l.alloc (.cells #[Value.slice (some (aq wr.heap.size 0)) 64 64] 66)=w3 at *;generalize l.heap.size=n4 at *;refine o _ _ ((Jg (f.kO c)).1) ?_
   try simp only[Act.put,PU]
   refine JB rq fun K o=>?_;refine elemRows.wp1_app (.tmp 21) (.tmp 23) rq w.heap.size S k h rq (QB j c) (some n4) 1 1 [Value.slice (some (aq wr.heap.size 0)) 64 64] rq a6 (by simp[Value.oneCell']) Z Z (AB y.size c.size) ?_;intro S' m R A T _;have U:d∉S.ownBlock.toList:=fun hm=>own_blk_ne j f (by decide) (uq hm);have B:=(f.kO c).keep A U;refine o _ _ ((Jg B).1) ?_
   try simp only[Act.put,PU]
   refine VB ?_;have f0:=B.frozen 0;have j0:=(Jg B).1;have a8:=B.set 0 S';have C:Keep [d] m (m.setCell (aq d 0) S'):=kq.sc d 0;have al:w.heap.size<wr.heap.size:=(own_mem t (g:=w.heap.size) (by simp[Value.ownBlock])).2
   have a9:d∉S'.ownBlock.toList:=fun hm=>by
    rcases T with e | e
    . rw[e] at hm;exact U hm
    rw[e] at hm;simp at hm;have:=f.lt;have:=c.size;omega
   have aa:w.heap.size∉S'.ownBlock.toList:=fun hm=>by
    rcases T with e | e
    . rw[e] at hm;exact u hm
    rw[e] at hm;simp at hm;have:=c.size;omega
   have V:∀ {e:TypeId} {s n:Nat} {v:Value} {xs:List Value},w3.ownsRow w.heap.size e s v n xs->e≠66->e≠97->(m.setCell (aq d 0) S').ownsRow w.heap.size e s v n xs:=fun a he ab=>
    KA (KA a A (fun x b hm=>own_ne a (QB j c) he b (uq hm))) C (fun x b hm=>by simp at hm;subst hm;exact own_blk_ne a (f.kO c) ab b)
   have ac:(m.setCell (aq d 0) S').ownsRow w.heap.size 66 1 (.slice (some w.heap.size) n n) n (List.replicate n (.slice none 0 0)):=
    KA (KA (QB t c) A (fun x b hm=>by simp[Value.ownBlock] at b;subst b;exact u hm)) C (fun x b hm=>by simp at hm;subst hm;exact own_blk_ne (QB t c) (f.kO c) (by decide) b)
   have ad:=V a7 (by decide) (by decide);have ae:Hid (∀ v∈h,(m.setCell (aq d 0) S').ownsRow w.heap.size 5 1 v 64 (bys zeros64)):=fun v a=>V (QB (ZA P v a) c) (by decide) (by decide);have af:=KA R C (fun x b hm=>by simp at hm;subst hm;exact a9 (uq b));have ag:kz w (m.setCell (aq d 0) S'):=((y.tO c).trans A (fun x b=>.inr (own_mem j b).1)).trans C (fun x b=>.inr (by simp at b;have:=ZA O;omega));obtain⟨am,sc,rfl,_⟩:=XB R;go_wp2_with fail;go_roundw
   case rel=>exact⟨k+1,_,_,Z,by go_num,uq a8,af,ac,aa,fun v a=>by
    simp only[AD,Ag] at a;rcases a with a | rfl
    . exact ZA ae v a
    exact ad,ag⟩
   case measure=>simp[intOf];omega
 obtain rfl:n=k:=Z
 go_wp2_with fail;go_ret;have X:h.length=n:=uq j.1
 refine⟨d,_,rfl,⟨S,_,h.map (fun v=>(v,zeros64)),List.replicate n (.slice none 0 0,none),f,?_,?_,?_,?_,?_,?_,?_,rfl,?_⟩,y⟩
 . simpa [X,Function.comp_def] using j
 . simpa using t
 . intro q D
   obtain⟨v,a,rfl⟩:=C8.1 D;exact .inr ⟨zeros64,rfl,by simp[zeros64],ZA P v a⟩
 . intro q D
   obtain rfl:=AX D;exact .inl ⟨rfl,rfl⟩
 . simp[PIdl.new,Function.comp_def,X,List.map_const']
 . simp[PIdl.new]
 . intro e
   rw[e] at u;exact u (by simp[Value.ownBlock])
 have:=ZA O;omega