/- Lemmas of the proof, with their conditions. -/
import Derived.Test.YtfedaknhecbehaaGreatL02
namespace Go.Proofs.YtfedaknhecbehaaGreat
open Tryz Go.RowKit
variable {A:Option Addr} {m:Nat}
set_option linter.all false
set_option maxHeartbeats 4000000
set_option maxRecDepth 20000
structure RowAt (w:World) (base r:Nat) (v:Value) (bs:List UInt8) (a:Nat):Prop where
 blk:Blk w r 400 #[v,ii a]
 own:w.ownsRow base 5 1 v bs.length (bys bs)
 base:base<=r
 le:a<=bs.length
 few:bs.length<=65536
namespace RowAt
variable {w w':World} {base r a:Nat} {v:Value} {bs:List UInt8}
theorem kO (h:RowAt w base r v bs a) (b:kz w w'):RowAt w' base r v bs a:=⟨h.blk.kO b,QB h.own b,h.base,h.le,h.few⟩
theorem drew (h:RowAt w base r v bs a):RowAt w.drew base r v bs a:=h.kO kq.drew
theorem not_mem (h:RowAt w base r v bs a):r∉v.ownBlock.toList:=fun b=>own_blk_ne h.own h.blk (by decide) (uq b)
theorem c0 (h:RowAt w base r v bs a):cl w r v:=uq (h.blk.cell 0)
theorem c1 (h:RowAt w base r v bs a):cl w (aq r 1) (ii a):=uq (h.blk.cell 1)
theorem fresh (h:RowAt w base r v bs a):∀ x∈r :: v.ownBlock.toList,base<=x:=fun x b=>by
 rcases AM.1 b with rfl | b
 . exact h.base
 exact(own_mem h.own b).1
theorem move (h:RowAt w base r v bs a) (b:Nat) (c:b<=bs.length):RowAt (w.setCell (aq r 1) (.int .i64 b)) base r v bs b:=
 ⟨by have:=h.blk.set 1 (.int .i64 b);simpa using this,own_set h.own h.not_mem _,h.base,c,h.few⟩
end RowAt
theorem YAM (n:Nat) (b:n<=65536) (w:World) :
 Calls prog 335 #[n] w fun e w'=>∃ r v,e=.returned (pq r)/\RowAt w' w.heap.size r v (List.replicate n 0) 0/\kz w w':=by
 go_enter func335,ntmps335;go_wp2_with (at_make;refine elem8.wp_make rfl _ _ rfl .i64 .i64 n n n rfl rfl rfl rfl Z Z ?_);go_ret;have a:=Blk.new (w.alloc (.cells (Array.replicate n (.int .u8 0)) 5)) 400 #[.slice (some w.heap.size) n n,zz];rw[show (w.alloc (.cells (Array.replicate n (.int .u8 0)) 5)).heap.size=w.heap.size+1 from sq] at a
 have c:(w.alloc (.cells (Array.replicate n (.int .u8 0)) 5)).ownsRow w.heap.size 5 1 (.slice (some w.heap.size) n n) n (bys (List.replicate n 0)):=
  XS (Blk.new w 5 (Array.replicate n (.int .u8 0))) (AG _) Z sq (by simp[bys,by8])
 exact⟨_,_,rfl,⟨a,by rw[Ai];exact KD c _,Z,AS _,uq b⟩,(kq.alloc _).alloc _⟩
theorem XU {n:Nat} (c:Nat) (bs:List UInt8) {w:World} (b:Rd w A n (bys bs)) (j:n<=65536) :
 Calls prog 256 #[.slice A n c] w fun e w'=>∃ r v,e=.returned (pq r)/\RowAt w' w.heap.size r v bs 0/\kz w w':=by
 have a:bs.length=n:=uq b.1;have g:=JX c bs b Z;have h:=JB a;clear a;go_enter func256,ntmps256;go_wp2_with (apply g.mono;rintro e w' ⟨v,rfl,d,f,_⟩;obtain⟨k,l,rfl,_⟩:=ZB d);go_ret;have i:=f.size;have a:=JA h;subst a;exact⟨_,_,rfl,⟨Blk.new _ _ _,KD d _,i,AS _,Z⟩,f.alloc _⟩
theorem Jj {w:World} {base r a:Nat} {v:Value} {bs:List UInt8} (h:RowAt w base r v bs a) :
 Calls prog 259 #[pq r] w fun e w'=>e=.returned (.int .i64 ((bs.length:Nat)-(a:Nat):Int))/\w.drew=w':=by
 obtain⟨A,c,rfl,_⟩:=ZB h.own;have b:=h.c0;have d:=h.c1;have f:=h.le;have g:=h.few;go_enter func259,ntmps259
 go_wp2
 refine ZT (fun w'=>cl w' r (.slice A bs.length c)/\cl w' (aq r 1) (ii a)) 9 [[0,1,2,3,4,5,6,7,8]] ⟨b,d⟩ ?_;simp only[PI];iterate 9 refine wG ?_
 refine KB ?_
 go_wp2
 go_ret;exact⟨rfl,rfl⟩
theorem QAg (k:Nat) (a:k=1\/k=2\/k=4) (w:World):cq 351 #[k] w (.bool true):=by
 rcases a with rfl | rfl | rfl
 all_goals
  go_enter func351,ntmps351
  go_wp2
  go_ret;exact⟨rfl,rfl⟩
theorem Jp {w:World} {base r a:Nat} {v:Value} {bs:List UInt8} (h:RowAt w base r v bs a) :
 Calls prog 338 #[pq r] w fun e w'=>∃ u,e=.returned u/\w'.ownsRow w.heap.size 5 1 u bs.length (bys bs)/\kz w w':=by
 obtain⟨A,c,rfl,_⟩:=ZB h.own;have g:=h.c0;have i:=h.few;have b:=JX c bs (Rd.of_own h.own) Z;go_enter func338,ntmps338;go_wp2_with (apply b.mono;rintro e w' ⟨v,rfl,d,f,_⟩);go_ret;exact⟨_,rfl,d,f⟩
theorem ZP {w:World} {base r a:Nat} (m:Nat) {v:Value} {bs:List UInt8} (h:RowAt w base r v bs a) (g:a+m<=bs.length) :
 Calls prog 257 #[pq r,m] w fun e w'=>∃ u,e=.returned (.tuple #[u,.bool true])/\w'.ownsRow w.heap.size 5 1 u m (bys ((bs.drop a).take m))/\RowAt w' base r v bs (a+m)/\Keep [r] w w':=by
 obtain⟨A,c,rfl,j,H,_⟩:=ZB h.own;have l:=h.c0;have o:=h.c1;have y:=h.few;have z:=h.blk.lt;have p:=Jj h;have i:=h.drew;have s:=((Rd.of_own i.own).cutA (k:=a) (cap:=c) Z j).take (k:=m) Z;rw[Jn,Zb] at s;have B:=fun W (d:kz w.drew W)=>JX (c-a) _ (s.keep d) Z;obtain⟨n,f⟩:=ex bs.length;rw[<- f] at l p g j y;have C:=JB f;have hrun:=elem8.run_lh A n c .i64 .i64 (a:Nat) ((a:Nat)+(m:Nat):Int) Z Z Z;rw[show ((a:Nat)+(m:Nat):Int).toNat-((a:Nat):Int).toNat=m from Z,BK] at hrun;have D:=JB hrun;have E:IntKind.i64.wrap ((a:Nat)+(m:Nat):Int)=(a:Nat)+(m:Nat):=by rw[AK];omega
 clear f hrun;go_enter func257,ntmps257;go_wp2_with (apply mq p);refine ZT (fun w'=>cl w' r (.slice A n c)/\cl w' (aq r 1) (ii a)) 14 [[0,1,2,3,4,5,6,7,8,9,10,11,12,13]] ⟨l,o⟩ ?_;simp only[PI];iterate 14 refine wG ?_
 refine KB ?_;clear E;go_wp2_with (refine QQ rfl (.tmp 22) (some (.tmp 26)) (some (.tmp 32)) rfl (.slice (cutA A a c) m (c-a)) ?hrun ?_)
 case hrun=>
  intro W;have h:=JA D W;exact h
 have F:=B w.drew.drew kq.drew;go_wp2_with (apply F.mono;rintro e I ⟨u,rfl,t,d,_⟩;have J:=(d.cell (b:=r) z sq 1).trans o;have K:=(i.kO (kq.drew.tO d)).blk.frozen 1);go_ret2;have f:=JA C;have G:=((i.drew).kO d).move (a+m) Z;rw[f] at *;exact⟨_,rfl,own_set t (fun g=>by have:=(own_mem t g).1;simp at this;omega) _,uq G,(kq.drew.drew.tO d).setCell (.inl sq) _⟩
theorem QBM {w:World} {base r a:Nat} {v:Value} {bs:List UInt8} (h:RowAt w base r v bs a) {S:Option Addr} (s:Nat) (ys:List UInt8) (t:Rd w S m (bys ys)) (u:a+m<=bs.length) :
 Calls prog 352 #[pq r,.slice S m s] w fun e w'=>e=.returned (.bool true)/\RowAt w' base r v (laid bs a ys) (a+m)/\Keep (r :: v.ownBlock.toList) w w':=by
 obtain⟨A,c,rfl,z,M,_⟩:=ZB h.own;have j:=h.c0;have B:=h.c1;have C:=h.few;have y:=Jj h;have d:=h.drew;have k:ys.length=m:=uq t.1;obtain⟨n,f⟩:=ex bs.length;rw[<- f] at j y u z C;have l:=JB f;have D:=JB k;have N:a<=n:=Z;have o:=elem8.run_l (P:=prog) A n c .i64 (a:Nat) Z Z;rw[BK] at o;have O:=JB o;clear f o k;go_enter func352,ntmps352;go_wp2_with (apply mq y);refine ZT (fun w'=>cl w' r (.slice A n c)/\cl w' (aq r 1) (ii a)) 15 [[0,1,2,3,4,5,6,7,8,9,10,11,12,13],[14]] ⟨j,B⟩ ?_;simp only[PI];iterate 14 refine wG ?_
 refine YB rq (fun K E=>?_);refine elem8.wp1_copyOwn (.tmp 26) (.tmp 27) rq base A n c (bys bs) a rq (by have:=d.own;rwa [<- JA l] at this) S m s (bys ys) rq t (Zi _) u ?_;intro Q F g;have i:r∉(Value.slice A n c).ownBlock.toList:=by have:=d.not_mem;rwa [<- JA l] at this
 have G:=(g.cell (b:=r) d.blk.lt i 1).trans d.c1;have H:=(g.cell (b:=r) d.blk.lt i 0).trans j;have R:=(g.frozen (b:=r) d.blk.lt i 1).trans (d.blk.frozen 1);refine E _ _ (⟨H,G⟩) ?_
 try simp only[Act.put,PU]
 refine KB ?_
 go_wp2
 all_goals
  go_ret
  try (have I:=h.symm;clear h;subst I)
  have f:=JA l;have k:=JA D;subst f;have J:(laid bs a ys).length=bs.length:=YI _ _ _ Z;refine⟨rfl,⟨?_,?_,d.base,Z,Z⟩,?_⟩
  . have:=(d.drew.blk.keep g i).set 1 (.int .i64 ((a+m:Nat)))
    simpa using this
  . rw[J,QAM]
    exact own_set F i _
  exact((((Keep.refl [] w).drew.drew).zero).trans g (fun x L=>.inl (Av _ L))).setCell (p:=⟨r,1,none⟩) (.inl Cf) _
theorem Xa {w:World} {base r a:Nat} (k:Nat) {v:Value} {bs:List UInt8} (h:RowAt w base r v bs a) (s:k=1\/k=2\/k=4) (F:a+k<=bs.length) :
 Calls prog 258 #[pq r,k] w fun e w'=>e=.returned (.tuple #[(num ((bs.drop a).take k):Nat),.bool true])/\RowAt w' base r v bs (a+k)/\Keep [r] w w':=by
 have Q:1<=k/\k<=4:=Z;obtain⟨g,c,rfl,G⟩:=QN h.own Z;have H:=h.few;have u:=Jj h;have y:=fun W=>QAg k s W;obtain⟨n,b⟩:=ex bs.length;rw[<- b] at u F G H;have j:=JB b;have z:(bs.drop a).length=n-a:=by rw[D7,b]
 have A:=JB z;clear s b z;go_enter func258,ntmps258;go_wp2_with (first | (apply mq (y _);clear y) | (apply mq u));go_loopw [4,6,21] (fun t _ i wr=>∃ m:Nat,m<=k/\i=.int .i64 m/\t=.int .i64 (num ((bs.drop a).take m):Nat)/\∃ d,wr=w.drewN d) (fun _ _ i _=>k-(intOf i).toNat)
 case atStart=>exact⟨0,AS _,rfl,sq,1,rfl⟩
 obtain⟨m,R,rfl,rfl,d,rfl⟩:=hrel;have f:RowAt (w.drewN d) base r (.slice (some g) bs.length c) bs a:=h.kO (kq.drewN _);have B:=f.c0;rw[<- JA j] at B;have I:=f.c1;have S:=f.blk.frozen 1;by_cases T:m<k
 . have C:m<(bs.drop a).length:=by rw[JA A];omega
   obtain⟨x,l⟩:=ex ((bs.drop a)[m])
   have J:(w.drewN d).cell? (aq g (a+m))=some (.int .u8 (x.toNat:Nat)):=by
    refine QJ f.own (i:=a+m) ?_;rw[l,List.getElem_drop];exact Yr _ _ (by have:=JA j;omega)
   have o:((bs.drop a).take m).length=m:=by rw[BE,JA A];omega
   have p:=QBp ((bs.drop a).take m);rw[o] at p;have D:=VBr _ m x Z p
   have E:num ((bs.drop a).take (m+1))=num ((bs.drop a).take m)+256 ^ m*x.toNat:=by
    rw[AO C,KBP,o,l]
   have K:=JB E;have L:=JB D;have M:IntKind.i64.wrap ((a:Nat)+(m:Nat):Int)=(a:Nat)+(m:Nat):=by rw[AK];omega
   have N:IntKind.i64.wrap (8*(m:Nat):Int)=8*(m:Nat):=by rw[AK];omega
   have U:(0:Int)<=(a:Nat)+(m:Nat):=Z;have V:((a:Nat):Int)+(m:Nat)<(n:Nat):=Z;have O:(((a:Nat):Int)+(m:Nat)).toNat=a+m:=Z;clear l o p D E C;generalize num ((bs.drop a).take m)=q at *
   go_wp2
   refine ZT (fun w'=>cl w' r (.slice (some g) n c)/\cl w' (aq r 1) (ii a)/\cl w' (aq g (a+m)) (.int .u8 (x.toNat:Nat))) 17 [[0,1,2,3,4,5,6,7,8,9,10,11,12,13,14,15,16]] ⟨B,I,J⟩ ?_;simp only[PI];iterate 17 refine wG ?_
   refine KB ?_;clear M N O
   go_wp2
   go_roundw;case rel=>exact⟨m+1,Z,by go_num,by rw[JA L,JA K],_,rfl⟩
   case measure=>simp[intOf];omega
 obtain rfl:k=m:=Z
 go_wp2
 go_ret2;have b:=JA j;have P:=f.move (a+k) Z;exact⟨rfl,uq P,(kq.drewN _).sc r 1⟩
def YL (zs:List Nat):List Value:=zs.map fun z=>.int .i64 (z:Nat)
@[simp] theorem length_nats (zs:List Nat):(YL zs).length=zs.length:=by simp[YL]
theorem XE (k:Nat) (zs:List Nat):(zs.flatMap (le k)).length=k*zs.length:=by
 induction zs with
 | nil=>simp
 | cons z zs ih=>rw[At,AE,ih,length_le,Am,Ci];omega
theorem YAb {w:World} {base r a:Nat} (k:Nat) {v:Value} {bs:List UInt8} (h:RowAt w base r v bs a) (Y:k=1\/k=2\/k=4) (c:Nat) (zs:List Nat) (M:Rd w A m (YL zs))
 (a0:∀ p,A=some p->p.block∉r :: v.ownBlock.toList) (hz:∀ z∈zs,z<256 ^ k) (ax:0<m) (E:a+k*m<=bs.length) :
 Calls prog 336 #[pq r,k,.slice A m c] w fun e w'=>e=.returned (.bool true)/\RowAt w' base r v (laid bs a (zs.flatMap (le k))) (a+k*m)/\Keep (r :: v.ownBlock.toList) w w':=by
 have a7:1<=k/\k<=4:=Z;have a8:m<=k*m:=Nat.le_mul_of_pos_left _ Z;obtain⟨g,l,rfl,hc⟩:=QN h.own Z;have a9:=h.few;have N:=Jj h;have a1:=fun W=>QAg k Y W;obtain⟨n,O⟩:=ex bs.length;rw[<- O] at N E hc a9;have a2:=JB O;have hl:zs.length=m:=uq M.1
 have hq:decide ((((n:Nat):Int)-(a:Nat)) / (k:Nat)<(m:Nat))=false:=by
  rw[AY,Int.not_lt,Int.le_ediv_iff_mul_le Z];rw[<- CM,Bq];omega
 have P:=JB hl;clear Y O hl;have ay:m<=65536:=Z;have aa:=h.le;rw[<- JA a2] at aa;clear a8;have ab:=JB E;clear E;go_enter func336,ntmps336;go_wp2_with (first | (apply mq (a1 _);clear a1) | (apply mq N));go_loop [8,30] (fun _ i=>∃ j:Nat,j<=m/\i=.int .i64 j) (fun _ i=>m-(intOf i).toNat)
 case atStart=>exact⟨0,AS _,rfl⟩
 obtain⟨j,hj,rfl⟩:=hrel;by_cases B:j<m
 . obtain⟨b,o,u,rfl,G,hb,I⟩:=M.at_ B
   have C:j<zs.length:=by rw[JA P];exact B
   simp only[YL,Aa,AC C,Ao,Ae] at G;subst G;have D:=hz _ (AQ C);generalize zs[j]=z at *
   have az:((((z:Nat):Int) / 2 ^ (8*k)) != 0)=false:=by
    have hp:((2:Int) ^ (8*k))=((256 ^ k:Nat):Int):=by rw[Dr,show ((256:Nat):Int)=2 ^ 8 from rq,Int.pow_mul]
    rw[hp,<- Cs,Nat.div_eq_of_lt D];rfl
   have b0:=JB D;clear D
   go_wp2
   go_round;case rel=>exact⟨j+1,Z,by go_num⟩
   case measure=>simp[intOf];omega
 obtain rfl:m=j:=Z;clear hq
 go_wp2
 obtain⟨L,H⟩:∃ L,L=r :: (Value.slice (some g) bs.length l).ownBlock.toList:=⟨_,rfl⟩;have ac:g∈L:=by rw[H];simp[Value.ownBlock]
 have ad:r∈L:=by rw[H];simp
 rw[<- H] at a0;have ae:=JB H;clear H;go_loopw [46] (fun i wr=>∃ j:Nat,j<=m/\i=.int .i64 j/\RowAt wr base r (.slice (some g) bs.length l) (laid bs a ((zs.take j).flatMap (le k))) (a+k*j)/\Keep L w wr) (fun i _=>m-(intOf i).toNat)
 case atStart=>exact⟨0,AS _,rfl,uq h.drew,kq.drew⟩
 obtain⟨j,hj,rfl,s,y⟩:=hrel;by_cases B:j<m
 . obtain⟨b,o,u,rfl,G,hb,I⟩:=M.at_ B
   have af:b∉L:=a0 _ rfl;replace I:=(y.cell hb af (o+j)).trans I;have C:j<zs.length:=by rw[JA P];exact B
   simp only[YL,Aa,AC C,Ao,Ae] at G;subst G;have D:=hz _ (AQ C);have Q:((zs.take j).flatMap (le k)).length=k*j:=by rw[XE,BE];congr 1;omega
   have R:(zs.take (j+1)).flatMap (le k)=(zs.take j).flatMap (le k)++le k zs[j]:=by rw[AO C,Az];simp
   have ag:k*j+k<=k*m:=by rw[<- Ci];exact Nat.mul_le_mul_left _ B
   have ah:=JA ab;have S:=JA a2;generalize zs[j]=z at *;have ai:z<256 ^ 4:=BC D (CG Z a7.2);obtain⟨t,T⟩:=ex (a+k*j);obtain⟨F,a3⟩:=ex ((zs.take j).flatMap (le k));rw[<- a3] at s Q R;rw[<- T] at s;have b1:t+k<=n:=Z;have a4:a+F.length=t:=Z;have a5:z<=9223372036854775807:=Z;have f:=s.own;have J:(laid bs a F).length=bs.length:=YI _ _ _ Z;rw[J] at f;have d:=s.blk;have aj:=JB R;have ak:=JB T;have U:=JB a4;have al:=JB a5;have K:=JB S;have am:=JB Q;rw[<- S] at f d;clear R T a4 a5 ai D a3 J ag ah S Q s
   go_wp2
   go_loopw [51] (fun i V=>∃ q:Nat,q<=k/\i=.int .i64 q/\Blk V r 400 #[.slice (some g) n l,ii t]/\V.ownsRow base 5 1 (.slice (some g) n l) n (bys (laid bs a (F++le q z)))/\Keep L w V) (fun i _=>k-(intOf i).toNat)
   case atStart=>exact⟨0,AS _,rfl,d,uq f,y⟩
   clear d f I y;obtain⟨q,hq,rfl,d,f,y⟩:=hrel;have h0:cl wr r (.slice (some g) n l):=uq (d.cell 0);have h1:cl wr (aq r 1) (ii t):=uq (d.cell 1);have b2:=d.frozen 1;by_cases b3:q<k
   . have X:(bys (laid bs a (F++le q z))).length=n:=by
      rw[length_bys,YI _ _ _ (by rw[AE,length_le];have:=JA U;have:=JA K;omega)];exact(JA K).symm
     have an:cl wr (aq g (t+q)) ((bys (laid bs a (F++le q z)))[t+q]'(by rw[X];omega)):=QJ f (AC _);have b4:=XI f (t+q);generalize (bys (laid bs a (F++le q z)))[t+q]'_=u at an;have ao:IntKind.i64.wrap ((t:Nat)+(q:Nat):Int)=(t:Nat)+(q:Nat):=by rw[AK];omega
     have ap:IntKind.i64.wrap (8*(q:Nat):Int)=8*(q:Nat):=by rw[AK];omega
     have b5:(0:Int)<=(t:Nat)+(q:Nat):=Z;have b6:((t:Nat):Int)+(q:Nat)<(n:Nat):=Z;have b7:(((t:Nat):Int)+(q:Nat)).toNat=t+q:=Z;have b8:=JB X;clear X
     go_wp2
     refine ZT (fun w'=>cl w' r (.slice (some g) n l)/\cl w' (aq r 1) (ii t)) 16 [[0,1,2,3,4,5,6,7,8,9,10,11,12,13,14,15]] ⟨h0,h1⟩ ?_;simp only[PI];iterate 16 refine wG ?_
     refine KB ?_;clear ao ap
     go_wp2
     have ar:r≠g:=fun e=>own_blk_ne f d (by decide) (by simp[Value.ownBlock,e]);have au:=JA U;have a6:=JA K;go_roundw
     case rel=>
      refine⟨q+1,Z,by go_num,(d.far (p:=⟨g,t+q,none⟩) ar _).drew,?_,(y.setCell (p:=⟨g,t+q,none⟩) (.inl ac) _).drew⟩;rw[KBI _ _ (JA al) Z,le_succ,<- BG];exact QB (JAN f (by rw[AE,length_le];omega) _ _ (by rw[AE,length_le];omega)) kq.drew
     case measure=>simp[intOf];omega
   obtain rfl:k=q:=Z;have b9:=d.lt
   go_wp2
   have av:r∉(Value.slice (some g) n l).ownBlock.toList:=fun E=>own_blk_ne f d (by decide) (uq E);have au:=JA U;have ba:=JA am;have a6:=JA K;have N:=JA ak;have aw:=JA aj;subst a6;have J:(laid bs a (F++le k z)).length=bs.length:=YI _ _ _ (by rw[AE,length_le];omega);go_roundw
   case rel=>
    refine⟨j+1,Z,by go_num,?_,y.setCell (p:=⟨r,1,none⟩) (.inl ad) _⟩;rw[aw,show a+k*(j+1)=t+k by rw[Ci];omega];refine⟨?_,by rw[J];exact own_set f av _,h.base,Z,Z⟩;have:=d.set 1 (.int .i64 ((t+k:Nat)));simpa using this
   case measure=>simp[intOf];omega
 obtain rfl:m=j:=Z
 go_wp2
 go_ret;rw[AH (Ap (JA P))] at s;exact⟨rfl,s,by rw[<- JA ae];exact y⟩