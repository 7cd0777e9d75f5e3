/- Lemmas of the proof, with their conditions. -/
import Derived.Test.YtfedaknhecbehaaGreatL04
import Derived.Test.YtfedaknhecbehaaGreatL03
namespace Go.Proofs.YtfedaknhecbehaaGreat
open Tryz Go.RowKit
variable {A:Option Addr} {n m:Nat}
set_option linter.all false
set_option maxHeartbeats 4000000
set_option maxRecDepth 20000
def QY (bs:List UInt8):Nat:=(~~~ ZQ 0xFFFFFFFF#32 bs).toNat
theorem Kn (bs:List UInt8):QY bs<4294967296:=(~~~ ZQ 0xFFFFFFFF#32 bs).isLt
theorem XBF (x:BitVec 32):wrap64 (bits BinOp.xor IntKind.u32 IntKind.u32.max (x.toNat:Nat))=((~~~ x).toNat:Nat):=by
 have h:=(~~~ x).isLt;rw[show IntKind.u32.max=((BitVec.allOnes 32).toNat:Nat) by decide,VAJ,BitVec.allOnes_xor];unfold wrap64;omega
theorem KAv (c:Nat) {ls:List (Value×List UInt8)} {w:World} (a:Rws w A n ls) (z:n<=9223372036854775807) :
 cq 388 #[.slice A n c] w (QY (ls.flatMap (·.2)):Nat):=by
 have d:=a.len;have e:=JB d;clear d;go_enter func388,ntmps388
 go_wp2
 go_loop [3,8] (fun v i=>∃ k:Nat,k<=n/\i=.int .i64 k/\v=.int .u32 ((ZQ 0xFFFFFFFF#32 ((ls.take k).flatMap (·.2))).toNat:Nat)) (fun _ i=>n-(intOf i).toNat)
 case atStart=>exact⟨0,AS _,rfl,rfl⟩
 obtain⟨k,B,rfl,rfl⟩:=hrel;by_cases f:k<n
 . have g:k<ls.length:=by rw[JA e];exact f
   obtain⟨b,o,rfl,C,D,l⟩:=a.at_ f g
   have h:ZQ 0xFFFFFFFF#32 ((ls.take (k+1)).flatMap (·.2))=ZQ (ZQ 0xFFFFFFFF#32 ((ls.take k).flatMap (·.2))) ls[k].2:=by
    rw[AO g,Az,XAK];simp
   have m:=JB h;clear h;generalize ZQ 0xFFFFFFFF#32 ((ls.take k).flatMap (·.2))=y at *;generalize ls[k]=p at *;obtain⟨E,r⟩:=p;obtain⟨F,G,s,j,H,I,t⟩:=l;simp only at j;subst j;have u:=QBd y s r t Z;go_wp2_with (apply mq u);go_round;case rel=>exact⟨k+1,Z,by go_num,by rw[JA m]⟩
   case measure=>simp[intOf];omega
 obtain rfl:k=n:=Z
 go_wp2
 go_ret;exact⟨VL (by rw[AH (Ap (JA e))];exact XBF _),rfl⟩
theorem Xw {base:Nat} {v:Value} (bs:List UInt8) {w:World} (a:w.ownsRow base 5 1 v bs.length (bys bs)) (A:4<=bs.length) (B:bs.length<=1000000) :
 Calls prog 337 #[v] w fun e w'=>e=.returned v/\w'.ownsRow base 5 1 v bs.length (bys (laid bs (bs.length-4) (le 4 (QY (bs.take (bs.length-4))))))/\Keep v.ownBlock.toList w w':=by
 obtain⟨g,c,rfl,C⟩:=QN a Z;have r:=Rd.of_own a;obtain⟨n,f⟩:∃ n,bs.length=n+4:=⟨bs.length-4,Z⟩;have j:=r.take (k:=n) Z;rw[Zb] at j;have H:=JBM a;obtain⟨s,b⟩:∃ s,QY (bs.take n)=s:=⟨_,rfl⟩;have l:=Kn (bs.take n);rw[b] at l;rw[f] at a C B A ⊢;rw[show n+4-4=n from Z,b]
 have t:Rws (w.alloc (.cells #[.slice (some g) n c] 66)) (some w.heap.size) 1 [(.slice (some g) n c,bs.take n)]:=
  ⟨JT _ _ _,fun p D=>by
    rw[Ak.1 D];exact⟨_,n,c,rfl,Z,Z,j.keep (kq.alloc _)⟩⟩
 have y:=KAv 1 t Z;rw[show ([((Value.slice (some g) n c),bs.take n)].flatMap (·.2))=bs.take n from sq,b] at y;have hrun:=fun W=>elem8.run_h (some g) (n+4) c .i64 (n:Nat) Z Z W;rw[BK] at hrun;have E:=JB hrun;have o:=JB f;have F:=JB l;clear hrun j t b f r l;go_enter func337,ntmps337
 go_wp2_with (first
  | (refine QQ rfl (.tmp 9) none (some (.tmp 10)) rfl (.slice (some g) n c) ?hrun ?_)
  | (apply mq y))
 case hrun=>
  intro W;have h:=JA E W;exact h
 go_loopw [5,14] (fun _ i wr=>∃ m:Nat,m<=4/\i=.int .i64 m/\wr.ownsRow base 5 1 (.slice (some g) (n+4) c) (n+4) (bys (laid bs n (le m s)))/\Keep [g] w wr) (fun _ i _=>4-(intOf i).toNat)
 case atStart=>exact⟨0,Z,rfl,by rw[le_zero,laid_nil];exact KD a _,kq.alloc _⟩
 obtain⟨m,I,rfl,d,z⟩:=hrel;by_cases J:m<4
 . have G:cl wr (aq g (n+m)) ((bys (laid bs n (le m s)))[n+m]'(by rw[length_bys,YI _ _ _ (by simp;have:=JA o;omega)];have:=JA o;omega)):=QJ d (AC _)
   have K:=XI d (n+m);generalize (bys (laid bs n (le m s)))[n+m]'_=u at G
   go_wp2
   go_roundw
   case rel=>
    refine⟨m+1,Z,by go_num,?_,z.setCell (.inl sq) _⟩;rw[KBI _ _ (by have:=JA F;omega) Z,le_succ];exact JAN d (by simp;have:=JA o;omega) _ _ sq
   case measure=>simp[intOf];omega
 obtain rfl:m=4:=Z
 go_wp2
 go_ret;exact⟨rfl,d,by simpa [Value.ownBlock] using z⟩
theorem Elem.wp_copyOwn {P:Program} {t e:TypeId} {z:Value} {j:Nat} (E:Elem P t e z j) {w:World} {f:Array Oper} {g:List Oper} {o:Oper} {a:Act} {Q:Exit->Act->World->Prop} (k:o.guard=none) (d s:Operand)
 (l:o.op=.call { callee:=.builtin .copy,args:=#[d,s],argTypes:=#[t,t] })
 (base:Nat) (A:Option Addr) (n c:Nat) (xs:List Value) (b:Nat) (p:a.eval d=.slice (cutA A b c) (n-b) (c-b)) (r:w.ownsRow base e 1 (.slice A n c) n xs)
 (S:Option Addr) (m i:Nat) (ys:List Value) (v:a.eval s=.slice S m i) (y:Rd w S m ys) (B:∀ u∈ys,u.oneCell'=true) (C:b+m<=n)
 (h:∀ w',w'.ownsRow base e 1 (.slice A n c) n (laid xs b ys)->Keep (Value.slice A n c).ownBlock.toList w w'->wpList P f Q g (a.put o.dst (.int .i64 (m:Nat))) w'):wpList P f Q (o :: g) a w:=
 Bx k fun _ D=>E.wp1_copyOwn d s l base A n c xs b p r S m i ys v y B C fun w' F G=>D _ _ (h w' F G)
structure RefAt (w:World) (base r:Nat) (v:Value) (bs:List UInt8) (a:Nat):Prop where
 blk:Blk w r 325 #[v,ii a]
 own:w.ownsRow base 5 1 v bs.length (bys bs)
 base:base<=r
 le:a<=bs.length
 few:bs.length<=65536
namespace RefAt
variable {w w':World} {base r a:Nat} {v:Value} {bs:List UInt8}
theorem kO (h:RefAt w base r v bs a) (b:kz w w'):RefAt w' base r v bs a:=⟨h.blk.kO b,QB h.own b,h.base,h.le,h.few⟩
theorem drew (h:RefAt w base r v bs a):RefAt w.drew base r v bs a:=h.kO kq.drew
theorem not_mem (h:RefAt w base r v bs a):r∉v.ownBlock.toList:=fun b=>own_blk_ne h.own h.blk (by decide) (uq b)
theorem c0 (h:RefAt w base r v bs a):cl w r v:=uq (h.blk.cell 0)
theorem c1 (h:RefAt w base r v bs a):cl w (aq r 1) (ii a):=uq (h.blk.cell 1)
theorem fresh (h:RefAt w base r v bs a):∀ x∈r :: v.ownBlock.toList,base<=x:=fun x b=>by
 rcases AM.1 b with rfl | b
 . exact h.base
 exact(own_mem h.own b).1
end RefAt
theorem QG (n lo hi:Int) (b:Bool) (a:decide (lo<=n/\n<=hi)=b) (w:World) :
 cq 147 #[ii n,ii lo,ii hi] w (.bool b):=by
 subst a;exact YAs n lo hi w
theorem QAq (n:Nat) (b:n<=65536) (w:World) :
 Calls prog 271 #[n] w fun e w'=>∃ r v,e=.returned (pq r)/\RefAt w' w.heap.size r v (List.replicate n 0) 0/\kz w w':=by
 have c:=QG (n:Nat) 0 65536 true (by simp;omega) w;go_enter func271,ntmps271
 go_wp2_with (first
  | (apply mq c)
  | (at_make;refine elem8.wp_make rfl _ _ rfl .i64 .i64 n n n rfl rfl rfl rfl Z Z ?_))
 go_ret;have a:=Blk.new (w.alloc (.cells (Array.replicate n (.int .u8 0)) 5)) 325 #[.slice (some w.heap.size) n n,zz];rw[show (w.alloc (.cells (Array.replicate n (.int .u8 0)) 5)).heap.size=w.heap.size+1 from sq] at a
 have d:(w.alloc (.cells (Array.replicate n (.int .u8 0)) 5)).ownsRow w.heap.size 5 1 (.slice (some w.heap.size) n n) n (bys (List.replicate n 0)):=
  XS (Blk.new w 5 (Array.replicate n (.int .u8 0))) (AG _) Z sq (by simp[bys,by8])
 exact⟨_,_,rfl,⟨a,by rw[Ai];exact KD d _,Z,AS _,uq b⟩,(kq.alloc _).alloc _⟩
theorem VBg (k:Nat) (a:k=1\/k=4) (w:World):cq 356 #[k] w (ii ((256 ^ k-1:Nat):Int)):=by
 rcases a with rfl | rfl
 all_goals
  go_enter func356,ntmps356
  go_wp2
  go_ret;exact⟨rfl,rfl⟩
theorem VBs {w:World} {base r a:Nat} {v:Value} {bs:List UInt8} (h:RefAt w base r v bs a) {S:Option Addr} (o:Nat) (ys:List UInt8) (s:Rd w S m (bys ys)) (t:a+m<=bs.length) :
 Calls prog 272 #[pq r,.slice S m o] w fun e w'=>e=.returned (.bool true)/\RefAt w' base r v (laid bs a ys) (a+m)/\Keep (r :: v.ownBlock.toList) w w':=by
 obtain⟨A,c,rfl,y,H,_⟩:=ZB h.own;have j:=h.c0;have u:=h.c1;have z:=h.few;have d:=h.drew;have k:ys.length=m:=uq s.1;obtain⟨n,f⟩:=ex bs.length;rw[<- f] at j t y z;have l:=JB f;have B:=JB k;have I:a<=n:=Z;have C:IntKind.i64.wrap ((n:Nat)-(a:Nat):Int)=(n:Nat)-(a:Nat):=by rw[AK];omega
 clear f k;go_enter func272,ntmps272
 go_wp2
 refine ZT (fun w'=>cl w' r (.slice A n c)/\cl w' (aq r 1) (ii a)) 12 [[0,1,2,3,4,5,6,7,8,9,10,11]] ⟨j,u⟩ ?_;simp only[PI];iterate 12 refine wG ?_
 refine KB ?_;clear C
 go_wp2
 refine ZT (fun w'=>cl w' r (.slice A n c)/\cl w' (aq r 1) (ii a)) 10 [[0,1,2,3,4,5,6,7,8,9]] ⟨j,u⟩ ?_;simp only[PI];iterate 10 refine wG ?_
 refine KB ?_;refine elem8.wp_copyOwn rfl (.tmp 26) (.tmp 27) rq base A n c (bys bs) a rq (by have:=d.drew.own;rwa [<- JA l] at this) S m o (bys ys) rq s (Zi _) t ?_;intro J D g;have i:r∉(Value.slice A n c).ownBlock.toList:=by have:=d.not_mem;rwa [<- JA l] at this
 have K:=(g.cell (b:=r) d.blk.lt i 1).trans d.c1;have L:=(g.frozen (b:=r) d.blk.lt i 1).trans (d.blk.frozen 1)
 go_wp2
 all_goals
  go_ret
  try (have E:=h.symm;clear h;subst E)
  have f:=JA l;have k:=JA B;subst f;have F:(laid bs a ys).length=bs.length:=YI _ _ _ Z;refine⟨rfl,⟨?_,?_,d.base,Z,Z⟩,?_⟩
  . have:=(d.drew.blk.keep g i).set 1 (.int .i64 ((a+m:Nat)))
    simpa using this
  . rw[F,QAM]
    exact own_set D i _
  exact((((Keep.refl [] w).drew.drew).zero).trans g (fun x G=>.inl (Av _ G))).setCell (p:=⟨r,1,none⟩) (.inl Cf) _
theorem JBR (y:Nat) (a:y<=9223372036854775807):Value.int .u8 (bits BinOp.and IntKind.i64 ((y:Nat):Int) 255 % 256)=by8 (UInt8.ofNat (y % 256)):=by
 rw[VBa _ Z Z];unfold by8;rw[Cd]
 congr 1
theorem YBs {w:World} {base r a:Nat} (k:Nat) {v:Value} {bs:List UInt8} (h:RefAt w base r v bs a) (hk:k=1\/k=4) (c:Nat) (zs:List Nat) (R:Rd w A m (YL zs))
 (a4:∀ p,A=some p->p.block∉r :: v.ownBlock.toList) (S:∀ z∈zs,z<256 ^ k) (bc:0<m) (G:a+k*m<=bs.length) :
 Calls prog 273 #[pq r,k,.slice A m c] w fun e w'=>e=.returned (.bool true)/\RefAt w' base r v (laid bs a (zs.flatMap (le k))) (a+k*m)/\Keep (r :: v.ownBlock.toList) w w':=by
 have ah:1<=k/\k<=4:=Z;have ai:m<=k*m:=Nat.le_mul_of_pos_left _ Z;obtain⟨g,l,rfl,hc⟩:=QN h.own Z;have aj:=h.few;have T:=fun W=>VBg k hk W;obtain⟨M,J⟩:∃ M:Nat,M=256 ^ k-1:=⟨_,rfl⟩;have a5:=fun(z:Nat) (S:z<256 ^ k) W=>QG (z:Nat) 0 (M:Nat) true (by rw[Ar,J];generalize 256 ^ k=y at *;omega) W;rw[<- J] at T;obtain⟨n,K⟩:=ex bs.length;rw[<- K] at G hc aj;have N:=h.c0;have U:=h.c1;rw[<- K] at N;have a6:=JB K;have hl:zs.length=m:=uq R.1
 have a7:IntKind.i64.wrap (((m:Nat):Int)*(k:Nat))=((k*m:Nat):Int):=by
  rw[<- CM,AK,Bq m k];generalize k*m=y at *;omega
 obtain⟨bd,V⟩:=ex (k*m);rw[<- V] at a7 G ai;have hs:IntKind.i64.wrap ((n:Nat)-(a:Nat):Int)=(n:Nat)-(a:Nat):=by rw[AK];omega
 have X:=JB hl;have ak:=JB V;have bf:=JB J;clear hk K hl V J;have bg:m<=65536:=Z;have al:=h.le;rw[<- JA a6] at al;have am:decide (((M:Nat):Int)<0)=false:=by rw[AY];omega
 have an:decide (n<m)=false:=by rw[AY];omega
 go_enter func273,ntmps273;go_wp2_with (apply mq (T _);clear T);refine ZT (fun w'=>cl w' r (.slice (some g) n l)/\cl w' (aq r 1) (ii a)) 27 [[0,1,2,3,4,5,6,7,8,9,10,11,12,13,14,15,16,17,18,19,20,21,22,23,24,25,26]] ⟨N,U⟩ ?_;simp only[PI];iterate 27 refine wG ?_
 refine KB ?_;clear hs a7
 go_wp2
 go_loop [8] (fun i=>∃ j:Nat,j<=m/\i=.int .i64 j) (fun i=>m-(intOf i).toNat)
 case atStart=>exact⟨0,AS _,rfl⟩
 obtain⟨j,hj,rfl⟩:=hrel;by_cases C:j<m
 . obtain⟨b,o,u,rfl,H,hb,O⟩:=R.at_ C
   have D:j<zs.length:=by rw[JA X];exact C
   simp only[YL,Aa,AC D,Ao,Ae] at H;subst H;have E:=S _ (AQ D);generalize zs[j]=z at *;have ao:=a5 z E w.drew;have bh:=JB E;clear E;go_wp2_with (apply mq ao);go_round;case rel=>exact⟨j+1,Z,by go_num⟩
   case measure=>simp[intOf];omega
 obtain rfl:m=j:=Z;clear a5 am an
 go_wp2
 obtain⟨L,I⟩:∃ L,L=r :: (Value.slice (some g) bs.length l).ownBlock.toList:=⟨_,rfl⟩;have ap:g∈L:=by rw[I];simp[Value.ownBlock]
 have ar:r∈L:=by rw[I];simp
 rw[<- I] at a4;have au:=JB I;clear I;go_loopw [9] (fun i wr=>∃ j:Nat,j<=m/\i=.int .i64 j/\RefAt wr base r (.slice (some g) bs.length l) (laid bs a ((zs.take j).flatMap (le k))) (a+k*j)/\Keep L w wr) (fun i _=>m-(intOf i).toNat)
 case atStart=>exact⟨0,AS _,rfl,uq h.drew,kq.drew⟩
 obtain⟨j,hj,rfl,s,B⟩:=hrel;by_cases C:j<m
 . obtain⟨b,o,u,rfl,H,hb,O⟩:=R.at_ C
   have av:b∉L:=a4 _ rfl;replace O:=(B.cell hb av (o+j)).trans O;have D:j<zs.length:=by rw[JA X];exact C
   simp only[YL,Aa,AC D,Ao,Ae] at H;subst H;have E:=S _ (AQ D);have Y:((zs.take j).flatMap (le k)).length=k*j:=by rw[XE,BE];congr 1;omega
   have a0:(zs.take (j+1)).flatMap (le k)=(zs.take j).flatMap (le k)++le k zs[j]:=by rw[AO D,Az];simp
   have aw:k*j+k<=k*m:=by rw[<- Ci];exact Nat.mul_le_mul_left _ C
   have ax:a+k*m<=n:=by rw[<- JA ak];exact G
   have a1:=JA a6;generalize zs[j]=z at *;have ay:z<256 ^ 4:=BC E (CG Z ah.2);obtain⟨t,ht⟩:=ex (a+k*j);obtain⟨F,a8⟩:=ex ((zs.take j).flatMap (le k));rw[<- a8] at s Y a0;rw[<- ht] at s;have bi:t+k<=n:=Z;have a9:a+F.length=t:=Z;have aa:z<=9223372036854775807:=Z;have f:=s.own;have P:(laid bs a F).length=bs.length:=YI _ _ _ Z;rw[P] at f;have d:=s.blk;have az:=JB a0;have b0:=JB ht;have a2:=JB a9;have b1:=JB aa;have Q:=JB a1;have b2:=JB Y;rw[<- a1] at f d;clear a0 ht a9 aa ay E a8 P aw ax a1 Y s
   go_wp2
   go_loopw [10,11] (fun x i wi=>∃ q:Nat,q<=k/\i=.int .i64 q/\x=.int .i64 ((z / 256 ^ q:Nat):Int)/\Blk wi r 325 #[.slice (some g) n l,ii ((t+q:Nat):Int)]/\wi.ownsRow base 5 1 (.slice (some g) n l) n (bys (laid bs a (F++le q z)))/\Keep L w wi) (fun _ i _=>k-(intOf i).toNat)
   case atStart=>exact⟨0,AS _,rfl,sq,uq d,uq f,B⟩
   clear d f O B;obtain⟨q,hq,rfl,rfl,d,f,B⟩:=hrel;have N:cl wr r (.slice (some g) n l):=uq (d.cell 0);have U:cl wr (aq r 1) (ii ((t+q:Nat):Int)):=uq (d.cell 1);have bj:=d.frozen 1;by_cases bk:q<k
   . have a3:(bys (laid bs a (F++le q z))).length=n:=by
      rw[length_bys,YI _ _ _ (by rw[AE,length_le];have:=JA a2;have:=JA Q;omega)];exact(JA Q).symm
     have b3:cl wr (aq g (t+q)) ((bys (laid bs a (F++le q z)))[t+q]'(by rw[a3];omega)):=QJ f (AC _);have bl:=XI f (t+q);generalize (bys (laid bs a (F++le q z)))[t+q]'_=u at b3;have b4:IntKind.i64.wrap ((t:Nat)+(q:Nat):Int)=(t:Nat)+(q:Nat):=by rw[AK];omega
     have bm:(0:Int)<=(t:Nat)+(q:Nat):=Z;have bn:((t:Nat):Int)+(q:Nat)<(n:Nat):=Z;have b5:(((t:Nat):Int)+(q:Nat)).toNat=t+q:=Z;have bo:t+q<n:=Z;have bp:=d.lt;have b6:z / 256 ^ q<=z:=CL _ _;have ab:=JBR (z / 256 ^ q) (by have:=JA b1;omega);have ac:z / 256 ^ q / 256=z / 256 ^ (q+1):=by rw[DI,CT]
     have ad:((z / 256 ^ q:Nat):Int) / 256=((z / 256 ^ (q+1):Nat):Int):=by rw[<- ac];omega
     have b7:=JB ad;have b8:=JB ab;have ae:r≠g:=fun e=>own_blk_ne f d (by decide) (by simp[Value.ownBlock,e]);have bq:=JB a3;clear a3 ac ad ab b6;generalize af:z / 256 ^ q=y at *;have b9:=JB af;clear af
     go_wp2
     refine ZT (fun w'=>cl w' r (.slice (some g) n l)/\cl w' (aq r 1) (ii ((t+q:Nat):Int))) 11 [[0,1,2,3,4,5,6,7,8,9,10]] ⟨N,U⟩ ?_;simp only[PI];iterate 11 refine wG ?_
     refine KB ?_;clear b4 b5
     go_wp2
     have ba:=JA a2;have ag:=JA Q;go_roundw
     case rel=>
      refine⟨q+1,Z,by go_num,by rw[JA b7],?_,?_,((B.setCell (p:=⟨g,t+q,none⟩) (.inl ap) _).setCell (p:=⟨r,1,none⟩) (.inl ar) _).drew⟩
      . have:=(((d.far (p:=⟨g,t+q,none⟩) ae (.int .u8 (bits BinOp.and IntKind.i64 ((y:Nat):Int) 255 % 256))).set 1 (.int .i64 ((t+(q+1):Nat):Int))).drew)
        simpa [Int.add_assoc] using this
      rw[JA b8,le_succ,<- BG,JA b9];have h2:=JAN f (by rw[AE,length_le];omega) (UInt8.ofNat (y % 256)) (t+q) (by rw[AE,length_le];omega);exact QB (own_set h2 (by simpa [Value.ownBlock] using ae) _) kq.drew
     case measure=>simp[intOf];omega
   obtain rfl:k=q:=Z
   go_wp2
   have br:r∉(Value.slice (some g) n l).ownBlock.toList:=fun G=>own_blk_ne f d (by decide) (uq G);have ba:=JA a2;have bt:=JA b2;have ag:=JA Q;have bu:=JA b0;have bb:=JA az;subst ag;have P:(laid bs a (F++le k z)).length=bs.length:=YI _ _ _ (by rw[AE,length_le];omega);go_roundw
   case rel=>
    refine⟨j+1,Z,by go_num,?_,B⟩;rw[bb,show a+k*(j+1)=t+k by rw[Ci];omega];exact⟨d,by rw[P];exact f,h.base,Z,Z⟩
   case measure=>simp[intOf];omega
 obtain rfl:m=j:=Z
 go_wp2
 go_ret;rw[AH (Ap (JA X))] at s;exact⟨rfl,s,by rw[<- JA au];exact B⟩
theorem YBE (c:Nat) (h:c<256):((c:Nat):Int)=((BitVec.ofNat 32 c).toNat:Nat):=by
 rw[CA,Bh Z]
theorem KBK (z:BitVec 32) (c:Nat) (h:c<256) :
 (bits BinOp.and IntKind.u32 (bits BinOp.xor IntKind.u32 (z.toNat:Nat) ((c:Nat):Int)) 1 == 1)=decide ((z ^^^ BitVec.ofNat 32 c) &&& 1#32=1#32):=by
 rw[YBE c h,VAJ,show (1:Int)=((1#32:BitVec 32).toNat:Nat) from rq,JBL];rw[Bg,CO,Ar];rw[Int.natCast_inj,BitVec.toNat_inj]
theorem XBs (c:Nat) (bs:List UInt8) {w:World} (g:Rd w A n (bys bs)) (G:n<=9223372036854775807) :
 Calls prog 357 #[zz,.slice A n c] w fun e w'=>e=.returned (.int .i64 (QY bs:Nat))/\w=w':=by
 have h:bs.length=n:=uq g.1
 have j:=JB h;clear h;have d:=XBE 0 4294967296 w Z Z;simp only[Int.zero_emod] at d;go_enter func357,ntmps357;go_wp2_with (apply mq d);go_loop [5,6] (fun v i=>∃ k:Nat,k<=n/\i=.int .i64 k/\v=.int .u32 ((ZQ 0xFFFFFFFF#32 (bs.take k)).toNat:Nat)) (fun _ i=>n-(intOf i).toNat)
 case atStart=>exact⟨0,Nat.zero_le _,rfl,rfl⟩
 case round=>
  obtain⟨k,H,rfl,rfl⟩:=hrel;by_cases l:k<n
  . obtain⟨b,o,u,rfl,p,a,E⟩:=g.at_ l
    have r:k<bs.length:=by rw[JA j];exact l
    rw[Yr _ _ r,Option.some.injEq] at p;subst p;have s:ZQ 0xFFFFFFFF#32 (bs.take (k+1))=VX (ZQ 0xFFFFFFFF#32 (bs.take k)) bs[k] 8:=by rw[List.take_succ_eq_append_getElem r,JAC]
    have F:=JB s;clear s;generalize ZQ 0xFFFFFFFF#32 (bs.take k)=y at *;generalize bs[k]=cc at *;have I:=cc.toNat_lt;unfold by8 at E
    go_wp2
    go_loop [5,7,8,9] (fun v x i _=>∃ m:Nat,m<=8/\i=.int .i64 m/\x=.int .u32 ((cc.toNat / 2 ^ m:Nat):Int)/\v=.int .u32 ((VX y cc m).toNat:Nat)) (fun _ _ i _=>8-(intOf i).toNat)
    case atStart=>exact⟨0,Nat.zero_le _,rfl,sq,rfl⟩
    case round=>
     obtain⟨m,J,rfl,rfl,rfl⟩:=hrel;by_cases K:m<8
     . have t:=Kt y cc m
       have L:cc.toNat / 2 ^ m<=cc.toNat:=Nat.div_le_self _ _
       have B:((cc.toNat / 2 ^ m:Nat):Int) / 2=((cc.toNat / 2 ^ (m+1):Nat):Int):=by
        rw[Nat.pow_succ,<- Nat.div_div_eq_div_mul];omega
       have C:=JB t;have D:=JB B;have d:=KBK (VX y cc m) (cc.toNat / 2 ^ m) Z;clear t B;generalize VX y cc m=z at *;generalize cc.toNat / 2 ^ m=q at *;by_cases a:(z ^^^ BitVec.ofNat 32 q) &&& 1#32=1#32
       . rw[decide_eq_true a] at d
         have f:=JB a;clear a
         go_wp2
         go_round;case rel=>exact⟨m+1,Z,by go_num,by rw[JA D],by rw[JA C,XAI,if_pos (JA f),KAd]⟩
         case measure=>simp[intOf];omega
       . rw[decide_eq_false a] at d
         have f:=JB a;clear a
         go_wp2
         go_round;case rel=>exact⟨m+1,Z,by go_num,by rw[JA D],by rw[JA C,XAI,if_neg (JA f),KAJ]⟩
         case measure=>simp[intOf];omega
     . obtain rfl:m=8:=Z
       go_wp2
       go_round;case rel=>exact⟨k+1,Z,by go_num,by rw[JA F]⟩
       case measure=>simp[intOf];omega
  . obtain rfl:k=n:=Z
    go_wp2
    go_ret;exact⟨VL (by rw[List.take_of_length_le (Nat.le_of_eq (JA j))];exact XBF _),rfl⟩
theorem KBs (c:Nat) (bs:List UInt8) {w:World} (a:Rd w A n (bys bs)) (b:n<=9223372036854775807) :
 cq 275 #[.slice A n c] w (QY bs:Nat):=by
 have d:=XBs c bs a b;go_enter func275,ntmps275;go_wp2_with (apply mq d);go_ret;exact⟨rfl,rfl⟩
theorem QBt {w1 W0:World} (base r a k z:Nat) (v:Value) (bs:List UInt8) (h:RefAt W0 base r v bs a) (d:k=1\/k=4) (f:z<256 ^ k) (t:a+k<=bs.length) (g:kz w1 W0) (i:base=w1.heap.size) :
 Calls prog 274 #[pq r,k,z] W0 fun e w'=>e=.returned (.tuple #[])/\RefAt w' base r v (laid bs a (le k z)) (a+k)/\kz w1 w':=by
 have j:=g.alloc (.cells #[z] 3);have c:RefAt (W0.alloc (.cells #[z] 3)) base r v bs a:=h.kO (kq.alloc _)
 have l:=YBs k c d (A:=(some ⟨W0.heap.size,0,none⟩)) (m:=1) 1 [z] (JT _ _ _) (fun p n=>by
  cases n;intro b;rcases AM.1 b with e | b
  . exact absurd (show W0.heap.size=r from e) (CU h.blk.lt)
  exact absurd (own_mem h.own b).2 (Cc _)) (uq f) Z Z
 go_enter func274,ntmps274;go_wp2_with (apply l.mono;rintro e w' ⟨rfl,o,s⟩)
 go_end0
 subst i;exact⟨rfl,uq o,j.trans s (fun x b=>.inr (c.fresh x b))⟩
def Zd (x:Int) (n:Nat):List UInt8:=(List.range n).map fun k=>UInt8.ofNat (((x % 256).toNat+k) % 256)
def VR (x:Int):List UInt8:=Zd x 64
theorem KAb (x:Int) (n:Nat):Zd x (n+1)=Zd x n++[UInt8.ofNat (((x % 256).toNat+n) % 256)]:=by simp[Zd,CF]
@[simp] theorem length_fillUp (x:Int) (n:Nat):(Zd x n).length=n:=by simp[Zd]
@[simp] theorem length_fillOf (x:Int):(VR x).length=64:=by simp[VR]
theorem Vo (x:Int) (w:World):Calls prog 28 #[ii x] w fun r w'=>∃ u,r=.returned u/\w'.ownsRow w.heap.size 5 1 u 64 (bys (VR x))/\kz w w':=by
 have e:∀ W:World,(Instr.makeSlice 66 (.int .i64 64) (.int .i64 64)).run prog W=.ok (.slice (some (aq W.heap.size 0)) 64 64) (W.alloc (.cells (Array.replicate 64 (.int .u8 0)) 5)):=fun W=>elem8.run_make .i64 .i64 64 64 Z Z Z W
 have j:(w.alloc (.cells (Array.replicate 64 (.int .u8 0)) 5)).ownsRow w.heap.size 5 1 (.slice (some w.heap.size) 64 64) 64 (bys (laid (List.replicate 64 0) 0 (Zd x 0))):=
  XS (Blk.new w 5 _) (AG _) Z sq (by simp[Zd,bys,by8,laid])
 obtain⟨y,b,v,z⟩:∃ y:Nat,x % 256=(y:Int)/\0<=y/\y<256:=⟨(x % 256).toNat,Z,Z,Z⟩;have f:=fun W=>VW x 256 W Z Z;rw[b] at f;have l:=JB b;clear b;have m:=e w;go_enter func28,ntmps28
 go_wp2
 clear e m;go_loopw [4] (fun i wr=>∃ k:Nat,k<=64/\i=.int .i64 k/\wr.ownsRow w.heap.size 5 1 (.slice (some w.heap.size) 64 64) 64 (bys (laid (List.replicate 64 0) 0 (Zd x k)))/\kz w wr) (fun i _=>(64-(intOf i)).toNat)
 case atStart=>exact⟨0,Z,rfl,j,kq.alloc _⟩
 obtain⟨k,A,rfl,a,g⟩:=hrel;by_cases n:k<64
 . have o:=f wr
   have h:=fun W=>VW ((y:Nat)+(k:Nat)) 256 W Z Z;have c:(bys (laid (List.replicate 64 (0:UInt8)) 0 (Zd x k))).length=64:=by rw[length_bys,YI _ _ _ (by simp;omega)];simp
   have s:cl wr (aq w.heap.size k) ((bys (laid (List.replicate 64 (0:UInt8)) 0 (Zd x k)))[k]'(by rw[c];exact n)):=QJ a (AC _);have B:=XI a k;generalize (bys (laid (List.replicate 64 (0:UInt8)) 0 (Zd x k)))[k]'_=u at s;have C:=JB c;clear c
   go_wp2_with (first
    | (apply mq o)
    | (apply mq (h _);clear h))
   go_roundw
   case rel=>
    refine⟨k+1,Z,by go_num,?_,g.setCell (p:=⟨w.heap.size,k,none⟩) (.inr (AG _)) _⟩;rw[KAb];have d:=JAN a (by simp;omega) (UInt8.ofNat (((x % 256).toNat+k) % 256)) k sq
    have t:by8 (UInt8.ofNat (((x % 256).toNat+k) % 256))=.int .u8 ((((y:Nat):Int)+(k:Nat)) % 256):=by
     rw[JA l];unfold by8;rw[Cd]
     congr 1
     omega
    rw[t] at d
    first | exact d | simpa using d
   case measure=>simp[intOf];omega
 obtain rfl:k=64:=Z
 go_wp2
 go_ret;refine⟨_,rfl,?_,g⟩;rw[Kv _ _ sq] at a;exact a
def ZBp (bs:List UInt8) (f:Nat):List UInt8:=bs.set (f / 8) (bs.getD (f / 8) 0 ^^^ UInt8.ofNat (2 ^ (f % 8)))