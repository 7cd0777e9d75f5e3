/- Lemmas of the proof, with their conditions. -/
import Derived.Test.YtfedaknhecbehaaGreatM02
namespace Go.Proofs.YtfedaknhecbehaaGreat
open Tryz Go.RowKit
variable {A:Option Addr} {m:Nat}
set_option linter.all false
set_option maxHeartbeats 4000000
set_option maxRecDepth 20000
structure RowAt (w:World) (base r:Nat) (v:Value) (bs:List UInt8) (a:Nat):Prop where
 blk:Blk w r 400 #[v,ii a]
 own:w.ownsRow base 5 1 v bs.length (bys bs)
 base:base<=r
 le:a<=bs.length
 few:bs.length<=65536
namespace RowAt
variable {w w':World} {base r a:Nat} {v:Value} {bs:List UInt8}
theorem kO (h:RowAt w base r v bs a) (b:kz w w'):RowAt w' base r v bs a:=⟨h.blk.kO b,QB h.own b,h.base,h.le,h.few⟩
theorem drew (h:RowAt w base r v bs a):RowAt w.drew base r v bs a:=h.kO kq.drew
theorem not_mem (h:RowAt w base r v bs a):r∉v.ownBlock.toList:=fun b=>own_blk_ne h.own h.blk (by decide) (uq b)
theorem c0 (h:RowAt w base r v bs a):cl w r v:=uq (h.blk.cell 0)
theorem c1 (h:RowAt w base r v bs a):cl w (aq r 1) (ii a):=uq (h.blk.cell 1)
theorem fresh (h:RowAt w base r v bs a):∀ x∈r :: v.ownBlock.toList,base<=x:=fun x b=>by
 rcases AL.1 b with rfl | b
 . exact h.base
 exact(own_mem h.own b).1
theorem move (h:RowAt w base r v bs a) (b:Nat) (c:b<=bs.length):RowAt (w.setCell (aq r 1) (.int .i64 b)) base r v bs b:=
 ⟨by have:=h.blk.set 1 (.int .i64 b);simpa using this,own_set h.own h.not_mem _,h.base,c,h.few⟩
end RowAt
theorem QAJ (n:Nat) (b:n<=65536) (w:World) :
 Calls prog 335 #[n] w fun e w'=>∃ r v,e=.returned (pq r)/\RowAt w' w.heap.size r v (List.replicate n 0) 0/\kz w w':=by
 go_enter func335,ntmps335;go_wp2_with (at_make;refine elem8.wp_make rfl _ _ rfl .i64 .i64 n n n rfl rfl rfl rfl Z Z ?_);go_ret;have a:=Blk.new (w.alloc (.cells (Array.replicate n (.int .u8 0)) 5)) 400 #[.slice (some w.heap.size) n n,zz];rw[show (w.alloc (.cells (Array.replicate n (.int .u8 0)) 5)).heap.size=w.heap.size+1 from sq] at a
 have c:(w.alloc (.cells (Array.replicate n (.int .u8 0)) 5)).ownsRow w.heap.size 5 1 (.slice (some w.heap.size) n n) n (bys (List.replicate n 0)):=
  QR (Blk.new w 5 (Array.replicate n (.int .u8 0))) (AG _) Z sq (by simp[bys,by8])
 exact⟨_,_,rfl,⟨a,by rw[BD];exact XE c _,Z,AP _,uq b⟩,(kq.alloc _).alloc _⟩
theorem QZ {n:Nat} (c:Nat) (bs:List UInt8) {w:World} (b:Rd w A n (bys bs)) (j:n<=65536) :
 Calls prog 256 #[.slice A n c] w fun e w'=>∃ r v,e=.returned (pq r)/\RowAt w' w.heap.size r v bs 0/\kz w w':=by
 have a:bs.length=n:=uq b.1
 have d:=KV c bs b Z;have h:=ZB a;clear a;go_enter func256,ntmps256;go_wp2_with (refine d.mono ?_;clear d;rintro e w' ⟨v,rfl,f,g,_⟩;obtain⟨k,l,rfl,_⟩:=XB f);go_ret;have i:=g.size;have a:=ZA h;subst a;exact⟨_,_,rfl,⟨Blk.new _ _ _,XE f _,i,AP _,Z⟩,g.alloc _⟩
theorem Zi {w:World} {base r a:Nat} {v:Value} {bs:List UInt8} (h:RowAt w base r v bs a) :
 Calls prog 259 #[pq r] w fun e w'=>e=.returned (.int .i64 ((bs.length:Nat)-(a:Nat):Int))/\w.drew=w':=by
 obtain⟨A,c,rfl,_⟩:=XB h.own;have b:=h.c0;have d:=h.c1;have f:=h.le;have g:=h.few;go_enter func259,ntmps259
 go_wp2
 refine ZT (fun w'=>cl w' r (.slice A bs.length c)/\cl w' (aq r 1) (ii a)) 9 [[0,1,2,3,4,5,6,7,8]] ⟨b,d⟩ ?_;simp only[PI];iterate 9 refine wG ?_
 refine VB ?_
 go_wp2
 go_ret;exact⟨rfl,rfl⟩
theorem JAb (k:Nat) (a:k=1\/k=2\/k=4) (w:World):cq 351 #[k] w (.bool true):=by
 rcases a with rfl | rfl | rfl
 all_goals
  go_enter func351,ntmps351
  go_wp2
  go_ret;exact⟨rfl,rfl⟩
theorem Qm {w:World} {base r a:Nat} {v:Value} {bs:List UInt8} (h:RowAt w base r v bs a) :
 Calls prog 338 #[pq r] w fun e w'=>∃ u,e=.returned u/\w'.ownsRow w.heap.size 5 1 u bs.length (bys bs)/\kz w w':=by
 obtain⟨A,c,rfl,_⟩:=XB h.own;have g:=h.c0;have i:=h.few;have b:=KV c bs (Rd.of_own h.own) Z;go_enter func338,ntmps338;go_wp2_with (refine b.mono ?_;clear b;rintro e w' ⟨v,rfl,d,f,_⟩);go_ret;exact⟨_,rfl,d,f⟩
theorem XR {w:World} {base r a:Nat} (m:Nat) {v:Value} {bs:List UInt8} (h:RowAt w base r v bs a) (g:a+m<=bs.length) :
 Calls prog 257 #[pq r,m] w fun e w'=>∃ u,e=.returned (.tuple #[u,.bool true])/\w'.ownsRow w.heap.size 5 1 u m (bys ((bs.drop a).take m))/\RowAt w' base r v bs (a+m)/\Keep [r] w w':=by
 obtain⟨A,c,rfl,l,G,_⟩:=XB h.own;have o:=h.c0;have p:=h.c1;have y:=h.few;have z:=h.blk.lt;have i:=Zi h;have j:=h.drew;have q:=((Rd.of_own j.own).cutA (k:=a) (cap:=c) Z l).take (k:=m) Z;rw[Xl,ZV] at q;have B:=fun W (d:kz w.drew W)=>KV (c-a) _ (q.keep d) Z;obtain⟨n,f⟩:=ex bs.length;rw[<- f] at o i g l y;have C:=ZB f;have hrun:=elem8.run_lh A n c .i64 .i64 (a:Nat) ((a:Nat)+(m:Nat):Int) Z Z Z;rw[show ((a:Nat)+(m:Nat):Int).toNat-((a:Nat):Int).toNat=m from Z,Ba] at hrun;have D:=ZB hrun;have E:IntKind.i64.wrap ((a:Nat)+(m:Nat):Int)=(a:Nat)+(m:Nat):=by rw[AI];omega
 clear f hrun;go_enter func257,ntmps257;go_wp2_with (refine i.mono ?_;clear i;rintro e w' ⟨rfl,rfl⟩);refine ZT (fun w'=>cl w' r (.slice A n c)/\cl w' (aq r 1) (ii a)) 14 [[0,1,2,3,4,5,6,7,8,9,10,11,12,13]] ⟨o,p⟩ ?_;simp only[PI];iterate 14 refine wG ?_
 refine VB ?_;clear E;go_wp2_with (refine Jd rfl (.tmp 22) (some (.tmp 26)) (some (.tmp 32)) rfl (.slice (cutA A a c) m (c-a)) ?hrun ?_)
 case hrun=>
  intro W;have h:=ZA D W;exact h
 have s:=B w.drew.drew kq.drew;go_wp2_with (refine s.mono ?_;clear s;rintro e H ⟨u,rfl,t,d,_⟩;have I:=(d.cell (b:=r) z sq 1).trans p;have J:=(j.kO (kq.drew.tO d)).blk.frozen 1);go_ret2;have f:=ZA C;have F:=((j.drew).kO d).move (a+m) Z;rw[f] at *;exact⟨_,rfl,own_set t (fun g=>by have:=(own_mem t g).1;simp at this;omega) _,uq F,(kq.drew.drew.tO d).setCell (.inl sq) _⟩
theorem QBB {w:World} {base r a:Nat} {v:Value} {bs:List UInt8} (h:RowAt w base r v bs a) {S:Option Addr} (s:Nat) (ys:List UInt8) (t:Rd w S m (bys ys)) (u:a+m<=bs.length) :
 Calls prog 352 #[pq r,.slice S m s] w fun e w'=>e=.returned (.bool true)/\RowAt w' base r v (laid bs a ys) (a+m)/\Keep (r :: v.ownBlock.toList) w w':=by
 obtain⟨A,c,rfl,y,L,_⟩:=XB h.own;have j:=h.c0;have z:=h.c1;have B:=h.few;have k:=Zi h;have d:=h.drew;have l:ys.length=m:=uq t.1
 obtain⟨n,f⟩:=ex bs.length;rw[<- f] at j k u y B;have o:=ZB f;have C:=ZB l;have M:a<=n:=Z
 have q:=elem8.run_l (P:=prog) A n c .i64 (a:Nat) Z Z;rw[Ba] at q;have N:=ZB q;clear f q l;go_enter func352,ntmps352;go_wp2_with (refine k.mono ?_;clear k;rintro e w' ⟨rfl,rfl⟩);refine ZT (fun w'=>cl w' r (.slice A n c)/\cl w' (aq r 1) (ii a)) 15 [[0,1,2,3,4,5,6,7,8,9,10,11,12,13],[14]] ⟨j,z⟩ ?_;simp only[PI];iterate 14 refine wG ?_
 refine JB rq fun K D=>?_;refine elem8.wp1_copyOwn (.tmp 26) (.tmp 27) rq base A n c (bys bs) a rq (by have:=d.own;rwa [<- ZA o] at this) S m s (bys ys) rq t (Xk _) u ?_;intro O E g;have i:r∉(Value.slice A n c).ownBlock.toList:=by have:=d.not_mem;rwa [<- ZA o] at this
 have F:=(g.cell (b:=r) d.blk.lt i 1).trans d.c1;have G:=(g.cell (b:=r) d.blk.lt i 0).trans j;have Q:=(g.frozen (b:=r) d.blk.lt i 1).trans (d.blk.frozen 1);refine D _ _ (⟨G,F⟩) ?_
 try simp only[Act.put,PU]
 refine VB ?_
 go_wp2
 all_goals
  go_ret
  try (have H:=h.symm;clear h;subst H)
  have f:=ZA o;have l:=ZA C;subst f;have I:(laid bs a ys).length=bs.length:=QG _ _ _ Z;refine⟨rfl,⟨?_,?_,d.base,Z,Z⟩,?_⟩
  . have:=(d.drew.blk.keep g i).set 1 (.int .i64 ((a+m:Nat)))
    simpa using this
  . rw[I,XAI]
    exact own_set E i _
  exact((((Keep.refl [] w).drew.drew).zero).trans g (fun x J=>.inl (Ak _ J))).setCell (p:=⟨r,1,none⟩) (.inl CS) _
theorem ZY {w:World} {base r a:Nat} (k:Nat) {v:Value} {bs:List UInt8} (h:RowAt w base r v bs a) (u:k=1\/k=2\/k=4) (F:a+k<=bs.length) :
 Calls prog 258 #[pq r,k] w fun e w'=>e=.returned (.tuple #[(num ((bs.drop a).take k):Nat),.bool true])/\RowAt w' base r v bs (a+k)/\Keep [r] w w':=by
 have Q:1<=k/\k<=4:=Z
 obtain⟨g,c,rfl,G⟩:=JI h.own Z;have H:=h.few;have j:=Zi h;have y:=fun W=>JAb k u W;obtain⟨n,b⟩:=ex bs.length;rw[<- b] at j F G H;have l:=ZB b;have z:(bs.drop a).length=n-a:=by rw[EC,b]
 have A:=ZB z;clear u b z;go_enter func258,ntmps258;go_wp2_with (first | (refine(y _).mono ?_;clear y;rintro e w' ⟨rfl,rfl⟩) | (refine j.mono ?_;clear j;rintro e w' ⟨rfl,rfl⟩));go_loopw [4,6,21] (fun t _ i wr=>∃ m:Nat,m<=k/\i=.int .i64 m/\t=.int .i64 (num ((bs.drop a).take m):Nat)/\∃ d,wr=w.drewN d) (fun _ _ i _=>k-(intOf i).toNat)
 case atStart=>exact⟨0,AP _,rfl,sq,1,rfl⟩
 obtain⟨m,R,rfl,rfl,d,rfl⟩:=hrel;have f:RowAt (w.drewN d) base r (.slice (some g) bs.length c) bs a:=h.kO (kq.drewN _);have B:=f.c0;rw[<- ZA l] at B;have I:=f.c1;have S:=f.blk.frozen 1;by_cases T:m<k
 . have C:m<(bs.drop a).length:=by rw[ZA A];omega
   obtain⟨x,o⟩:=ex ((bs.drop a)[m])
   have J:(w.drewN d).cell? (aq g (a+m))=some (.int .u8 (x.toNat:Nat)):=by
    refine YI f.own (i:=a+m) ?_;rw[o,List.getElem_drop];exact Yn _ _ (by have:=ZA l;omega)
   have p:((bs.drop a).take m).length=m:=by rw[BH,ZA A];omega
   have s:=JBk ((bs.drop a).take m);rw[p] at s;have D:=KBm _ m x Z s
   have E:num ((bs.drop a).take (m+1))=num ((bs.drop a).take m)+256 ^ m*x.toNat:=by
    rw[AO C,ZBN,p,o]
   have K:=ZB E;have L:=ZB D;have M:IntKind.i64.wrap ((a:Nat)+(m:Nat):Int)=(a:Nat)+(m:Nat):=by rw[AI];omega
   have N:IntKind.i64.wrap (8*(m:Nat):Int)=8*(m:Nat):=by rw[AI];omega
   have U:(0:Int)<=(a:Nat)+(m:Nat):=Z
   have V:((a:Nat):Int)+(m:Nat)<(n:Nat):=Z
   have O:(((a:Nat):Int)+(m:Nat)).toNat=a+m:=Z
   clear o p s D E C;generalize num ((bs.drop a).take m)=q at *
   go_wp2
   refine ZT (fun w'=>cl w' r (.slice (some g) n c)/\cl w' (aq r 1) (ii a)/\cl w' (aq g (a+m)) (.int .u8 (x.toNat:Nat))) 17 [[0,1,2,3,4,5,6,7,8,9,10,11,12,13,14,15,16]] ⟨B,I,J⟩ ?_;simp only[PI];iterate 17 refine wG ?_
   refine VB ?_;clear M N O
   go_wp2
   go_roundw;case rel=>exact⟨m+1,Z,by go_num,by rw[ZA L,ZA K],_,rfl⟩
   case measure=>simp[intOf];omega
 obtain rfl:k=m:=Z
 go_wp2
 go_ret2;have b:=ZA l;have P:=f.move (a+k) Z;exact⟨rfl,uq P,(kq.drewN _).sc r 1⟩
def XP (zs:List Nat):List Value:=zs.map fun z=>.int .i64 (z:Nat)
@[simp] theorem length_nats (zs:List Nat):(XP zs).length=zs.length:=by simp[XP]
theorem KD (k:Nat) (zs:List Nat):(zs.flatMap (le k)).length=k*zs.length:=by
 induction zs with
 | nil=>simp
 | cons z zs ih=>rw[BE,AE,ih,length_le,Ao,DM];omega
theorem ZAU {w:World} {base r a:Nat} (k:Nat) {v:Value} {bs:List UInt8} (h:RowAt w base r v bs a) (Y:k=1\/k=2\/k=4) (c:Nat) (zs:List Nat) (N:Rd w A m (XP zs))
 (a0:∀ p,A=some p->p.block∉r :: v.ownBlock.toList) (hz:∀ z∈zs,z<256 ^ k) (ax:0<m) (E:a+k*m<=bs.length) :
 Calls prog 336 #[pq r,k,.slice A m c] w fun e w'=>e=.returned (.bool true)/\RowAt w' base r v (laid bs a (zs.flatMap (le k))) (a+k*m)/\Keep (r :: v.ownBlock.toList) w w':=by
 have a7:1<=k/\k<=4:=Z
 have a8:m<=k*m:=Nat.le_mul_of_pos_left _ Z;obtain⟨g,l,rfl,hc⟩:=JI h.own Z;have a9:=h.few;have I:=Zi h;have a1:=fun W=>JAb k Y W;obtain⟨n,O⟩:=ex bs.length;rw[<- O] at I E hc a9;have a2:=ZB O;have hl:zs.length=m:=uq N.1
 have hq:decide ((((n:Nat):Int)-(a:Nat)) / (k:Nat)<(m:Nat))=false:=by
  rw[AV,Int.not_lt,Int.le_ediv_iff_mul_le Z];rw[<- CP,CM];omega
 have P:=ZB hl;clear Y O hl;have ay:m<=65536:=Z
 have aa:=h.le;rw[<- ZA a2] at aa;clear a8;have ab:=ZB E;clear E;go_enter func336,ntmps336;go_wp2_with (first | (refine(a1 _).mono ?_;clear a1;rintro e w' ⟨rfl,rfl⟩) | (refine I.mono ?_;clear I;rintro e w' ⟨rfl,rfl⟩));go_loop [8,30] (fun _ i=>∃ j:Nat,j<=m/\i=.int .i64 j) (fun _ i=>m-(intOf i).toNat)
 case atStart=>exact⟨0,AP _,rfl⟩
 obtain⟨j,hj,rfl⟩:=hrel;by_cases B:j<m
 . obtain⟨b,o,u,rfl,G,hb,J⟩:=N.at_ B
   have C:j<zs.length:=by rw[ZA P];exact B
   simp only[XP,Aa,AC C,Az,Ab] at G;subst G;have D:=hz _ (AN C);generalize zs[j]=z at *
   have az:((((z:Nat):Int) / 2 ^ (8*k)) != 0)=false:=by
    have hp:((2:Int) ^ (8*k))=((256 ^ k:Nat):Int):=by rw[Dw,show ((256:Nat):Int)=2 ^ 8 from rq,Int.pow_mul]
    rw[hp,<- Ct,Nat.div_eq_of_lt D];rfl
   have b0:=ZB D;clear D
   go_wp2
   go_round;case rel=>exact⟨j+1,Z,by go_num⟩
   case measure=>simp[intOf];omega
 obtain rfl:m=j:=Z
 clear hq
 go_wp2
 obtain⟨L,H⟩:∃ L,L=r :: (Value.slice (some g) bs.length l).ownBlock.toList:=⟨_,rfl⟩;have ac:g∈L:=by rw[H];simp[Value.ownBlock]
 have ad:r∈L:=by rw[H];simp
 rw[<- H] at a0;have ae:=ZB H;clear H;go_loopw [46] (fun i wr=>∃ j:Nat,j<=m/\i=.int .i64 j/\RowAt wr base r (.slice (some g) bs.length l) (laid bs a ((zs.take j).flatMap (le k))) (a+k*j)/\Keep L w wr) (fun i _=>m-(intOf i).toNat)
 case atStart=>exact⟨0,AP _,rfl,uq h.drew,kq.drew⟩
 obtain⟨j,hj,rfl,s,y⟩:=hrel;by_cases B:j<m
 . obtain⟨b,o,u,rfl,G,hb,J⟩:=N.at_ B
   have af:b∉L:=a0 _ rfl;replace J:=(y.cell hb af (o+j)).trans J;have C:j<zs.length:=by rw[ZA P];exact B
   simp only[XP,Aa,AC C,Az,Ab] at G;subst G;have D:=hz _ (AN C);have Q:((zs.take j).flatMap (le k)).length=k*j:=by rw[KD,BH];congr 1;omega
   have R:(zs.take (j+1)).flatMap (le k)=(zs.take j).flatMap (le k)++le k zs[j]:=by rw[AO C,BM];simp
   have ag:k*j+k<=k*m:=by rw[<- DM];exact Nat.mul_le_mul_left _ B
   have ah:=ZA ab;have S:=ZA a2;generalize zs[j]=z at *;have ai:z<256 ^ 4:=BP D (CF Z a7.2);obtain⟨t,T⟩:=ex (a+k*j);obtain⟨F,a3⟩:=ex ((zs.take j).flatMap (le k));rw[<- a3] at s Q R;rw[<- T] at s;have b1:t+k<=n:=Z
   have a4:a+F.length=t:=Z
   have a5:z<=9223372036854775807:=Z
   have f:=s.own;have K:(laid bs a F).length=bs.length:=QG _ _ _ Z;rw[K] at f;have d:=s.blk;have aj:=ZB R;have ak:=ZB T;have U:=ZB a4;have al:=ZB a5;have M:=ZB S;have am:=ZB Q;rw[<- S] at f d;clear R T a4 a5 ai D a3 K ag ah S Q s
   go_wp2
   go_loopw [51] (fun i V=>∃ q:Nat,q<=k/\i=.int .i64 q/\Blk V r 400 #[.slice (some g) n l,ii t]/\V.ownsRow base 5 1 (.slice (some g) n l) n (bys (laid bs a (F++le q z)))/\Keep L w V) (fun i _=>k-(intOf i).toNat)
   case atStart=>exact⟨0,AP _,rfl,d,uq f,y⟩
   clear d f J y;obtain⟨q,hq,rfl,d,f,y⟩:=hrel;have h0:cl wr r (.slice (some g) n l):=uq (d.cell 0)
   have h1:cl wr (aq r 1) (ii t):=uq (d.cell 1)
   have b2:=d.frozen 1;by_cases b3:q<k
   . have X:(bys (laid bs a (F++le q z))).length=n:=by
      rw[length_bys,QG _ _ _ (by rw[AE,length_le];have:=ZA U;have:=ZA M;omega)];exact(ZA M).symm
     have an:cl wr (aq g (t+q)) ((bys (laid bs a (F++le q z)))[t+q]'(by rw[X];omega)):=YI f (AC _);have b4:=XJ f (t+q);generalize (bys (laid bs a (F++le q z)))[t+q]'_=u at an;have ao:IntKind.i64.wrap ((t:Nat)+(q:Nat):Int)=(t:Nat)+(q:Nat):=by rw[AI];omega
     have ap:IntKind.i64.wrap (8*(q:Nat):Int)=8*(q:Nat):=by rw[AI];omega
     have b5:(0:Int)<=(t:Nat)+(q:Nat):=Z
     have b6:((t:Nat):Int)+(q:Nat)<(n:Nat):=Z
     have b7:(((t:Nat):Int)+(q:Nat)).toNat=t+q:=Z
     have b8:=ZB X;clear X
     go_wp2
     refine ZT (fun w'=>cl w' r (.slice (some g) n l)/\cl w' (aq r 1) (ii t)) 16 [[0,1,2,3,4,5,6,7,8,9,10,11,12,13,14,15]] ⟨h0,h1⟩ ?_;simp only[PI];iterate 16 refine wG ?_
     refine VB ?_;clear ao ap
     go_wp2
     have ar:r≠g:=fun e=>own_blk_ne f d (by decide) (by simp[Value.ownBlock,e]);have au:=ZA U;have a6:=ZA M;go_roundw
     case rel=>
      refine⟨q+1,Z,by go_num,(d.far (p:=⟨g,t+q,none⟩) ar _).drew,?_,(y.setCell (p:=⟨g,t+q,none⟩) (.inl ac) _).drew⟩;rw[YAv _ _ (ZA al) Z,le_succ,<- BN];exact QB (ZAI f (by rw[AE,length_le];omega) _ _ (by rw[AE,length_le];omega)) kq.drew
     case measure=>simp[intOf];omega
   obtain rfl:k=q:=Z
   have b9:=d.lt
   go_wp2
   have av:r∉(Value.slice (some g) n l).ownBlock.toList:=fun E=>own_blk_ne f d (by decide) (uq E);have au:=ZA U;have ba:=ZA am;have a6:=ZA M;have I:=ZA ak;have aw:=ZA aj;subst a6;have K:(laid bs a (F++le k z)).length=bs.length:=QG _ _ _ (by rw[AE,length_le];omega);go_roundw
   case rel=>
    refine⟨j+1,Z,by go_num,?_,y.setCell (p:=⟨r,1,none⟩) (.inl ad) _⟩;rw[aw,show a+k*(j+1)=t+k by rw[DM];omega];refine⟨?_,by rw[K];exact own_set f av _,h.base,Z,Z⟩;have:=d.set 1 (.int .i64 ((t+k:Nat)));simpa using this
   case measure=>simp[intOf];omega
 obtain rfl:m=j:=Z
 go_wp2
 go_ret;rw[AK (Ar (ZA P))] at s;exact⟨rfl,s,by rw[<- ZA ae];exact y⟩