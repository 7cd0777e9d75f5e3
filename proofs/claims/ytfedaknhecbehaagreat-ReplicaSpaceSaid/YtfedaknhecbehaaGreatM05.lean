/- Lemmas of the proof, with their conditions. -/
import Derived.Test.YtfedaknhecbehaaGreatM04
import Derived.Test.YtfedaknhecbehaaGreatM03
namespace Go.Proofs.YtfedaknhecbehaaGreat
open Tryz Go.RowKit
variable {A:Option Addr} {n m:Nat} {P:Program}
set_option linter.all false
set_option maxHeartbeats 4000000
set_option maxRecDepth 20000
def KM (bs:List UInt8):Nat:=(~~~ VN 0xFFFFFFFF#32 bs).toNat
theorem ZW (bs:List UInt8):KM bs<4294967296:=(~~~ VN 0xFFFFFFFF#32 bs).isLt
theorem YAz (x:BitVec 32):wrap64 (bits BinOp.xor IntKind.u32 IntKind.u32.max (x.toNat:Nat))=((~~~ x).toNat:Nat):=by
 have h:=(~~~ x).isLt;rw[show IntKind.u32.max=((BitVec.allOnes 32).toNat:Nat) by decide,QAH,BitVec.allOnes_xor];unfold wrap64;omega
theorem YAs (c:Nat) {ls:List (Value×List UInt8)} {w:World} (a:Rws w A n ls) (z:n<=9223372036854775807) :
 cq 388 #[.slice A n c] w (KM (ls.flatMap (·.2)):Nat):=by
 have d:=a.len;have f:=ZB d;clear d;go_enter func388,ntmps388
 go_wp2
 go_loop [3,8] (fun v i=>∃ k:Nat,k<=n/\i=.int .i64 k/\v=.int .u32 ((VN 0xFFFFFFFF#32 ((ls.take k).flatMap (·.2))).toNat:Nat)) (fun _ i=>n-(intOf i).toNat)
 case atStart=>exact⟨0,AP _,rfl,rfl⟩
 obtain⟨k,B,rfl,rfl⟩:=hrel;by_cases g:k<n
 . have h:k<ls.length:=by rw[ZA f];exact g
   obtain⟨b,o,rfl,C,D,q⟩:=a.at_ g h
   have j:VN 0xFFFFFFFF#32 ((ls.take (k+1)).flatMap (·.2))=VN (VN 0xFFFFFFFF#32 ((ls.take k).flatMap (·.2))) ls[k].2:=by
    rw[AO h,BM,Vc];simp
   have r:=ZB j;clear j;generalize VN 0xFFFFFFFF#32 ((ls.take k).flatMap (·.2))=y at *;generalize ls[k]=p at *;obtain⟨E,s⟩:=p;obtain⟨F,G,t,l,H,I,u⟩:=q;simp only at l;subst l;have m:=VBe y t s u Z;go_wp2_with (refine m.mono ?_;clear m;rintro e w' ⟨rfl,rfl⟩);go_round;case rel=>exact⟨k+1,Z,by go_num,by rw[ZA r]⟩
   case measure=>simp[intOf];omega
 obtain rfl:k=n:=Z
 go_wp2
 go_ret;exact⟨JL (by rw[AK (Ar (ZA f))];exact YAz _),rfl⟩
theorem Yt {base:Nat} {v:Value} (bs:List UInt8) {w:World} (a:w.ownsRow base 5 1 v bs.length (bys bs)) (z:4<=bs.length) (A:bs.length<=1000000) :
 Calls prog 337 #[v] w fun e w'=>e=.returned v/\w'.ownsRow base 5 1 v bs.length (bys (laid bs (bs.length-4) (le 4 (KM (bs.take (bs.length-4))))))/\Keep v.ownBlock.toList w w':=by
 obtain⟨g,c,rfl,B⟩:=JI a Z;have r:=Rd.of_own a;obtain⟨n,f⟩:∃ n,bs.length=n+4:=⟨bs.length-4,Z⟩;have j:=r.take (k:=n) Z;rw[ZV] at j;have G:=YAw a;obtain⟨s,b⟩:∃ s,KM (bs.take n)=s:=⟨_,rfl⟩;have l:=ZW (bs.take n);rw[b] at l;rw[f] at a B A z ⊢;rw[show n+4-4=n from Z,b]
 have t:Rws (w.alloc (.cells #[.slice (some g) n c] 66)) (some w.heap.size) 1 [(.slice (some g) n c,bs.take n)]:=
  ⟨XS _ _ _,fun p C=>by
    rw[Ag.1 C];exact⟨_,n,c,rfl,Z,Z,j.keep (kq.alloc _)⟩⟩
 have o:=YAs 1 t Z;rw[show ([((Value.slice (some g) n c),bs.take n)].flatMap (·.2))=bs.take n from sq,b] at o;have hrun:=fun W=>elem8.run_h (some g) (n+4) c .i64 (n:Nat) Z Z W;rw[Ba] at hrun;have D:=ZB hrun;have q:=ZB f;have E:=ZB l;clear hrun j t b f r l;go_enter func337,ntmps337
 go_wp2_with (first
  | (refine Jd rfl (.tmp 9) none (some (.tmp 10)) rfl (.slice (some g) n c) ?hrun ?_)
  | (refine o.mono ?_;clear o;rintro e w' ⟨rfl,rfl⟩))
 case hrun=>
  intro W;have h:=ZA D W;exact h
 go_loopw [5,14] (fun _ i wr=>∃ m:Nat,m<=4/\i=.int .i64 m/\wr.ownsRow base 5 1 (.slice (some g) (n+4) c) (n+4) (bys (laid bs n (le m s)))/\Keep [g] w wr) (fun _ i _=>4-(intOf i).toNat)
 case atStart=>exact⟨0,Z,rfl,by rw[le_zero,laid_nil];exact XE a _,kq.alloc _⟩
 obtain⟨m,H,rfl,d,y⟩:=hrel;by_cases I:m<4
 . have F:cl wr (aq g (n+m)) ((bys (laid bs n (le m s)))[n+m]'(by rw[length_bys,QG _ _ _ (by simp;have:=ZA q;omega)];have:=ZA q;omega)):=YI d (AC _)
   have J:=XJ d (n+m);generalize (bys (laid bs n (le m s)))[n+m]'_=u at F
   go_wp2
   go_roundw
   case rel=>
    refine⟨m+1,Z,by go_num,?_,y.setCell (.inl sq) _⟩;rw[YAv _ _ (by have:=ZA E;omega) Z,le_succ];exact ZAI d (by simp;have:=ZA q;omega) _ _ sq
   case measure=>simp[intOf];omega
 obtain rfl:m=4:=Z
 go_wp2
 go_ret;exact⟨rfl,d,by simpa [Value.ownBlock] using y⟩
theorem Elem.wp_copyOwn {t e:TypeId} {z:Value} {j:Nat} (E:Elem P t e z j) {w:World} {f:Array Oper} {g:List Oper} {o:Oper} {a:Act} {Q:Exit->Act->World->Prop} (k:o.guard=none) (d s:Operand)
 (l:o.op=.call { callee:=.builtin .copy,args:=#[d,s],argTypes:=#[t,t] })
 (base:Nat) (A:Option Addr) (n c:Nat) (xs:List Value) (b:Nat) (p:a.eval d=.slice (cutA A b c) (n-b) (c-b)) (q:w.ownsRow base e 1 (.slice A n c) n xs)
 (S:Option Addr) (m i:Nat) (ys:List Value) (r:a.eval s=.slice S m i) (v:Rd w S m ys) (y:∀ u∈ys,u.oneCell'=true) (B:b+m<=n)
 (h:∀ w',w'.ownsRow base e 1 (.slice A n c) n (laid xs b ys)->Keep (Value.slice A n c).ownBlock.toList w w'->wpList P f Q g (a.put o.dst (.int .i64 (m:Nat))) w'):wpList P f Q (o :: g) a w:=
 B5 k fun _ C=>E.wp1_copyOwn d s l base A n c xs b p q S m i ys r v y B fun w' D F=>C _ _ (h w' D F)
structure RefAt (w:World) (base r:Nat) (v:Value) (bs:List UInt8) (a:Nat):Prop where
 blk:Blk w r 325 #[v,ii a]
 own:w.ownsRow base 5 1 v bs.length (bys bs)
 base:base<=r
 le:a<=bs.length
 few:bs.length<=65536
namespace RefAt
variable {w w':World} {base r a:Nat} {v:Value} {bs:List UInt8}
theorem kO (h:RefAt w base r v bs a) (b:kz w w'):RefAt w' base r v bs a:=⟨h.blk.kO b,QB h.own b,h.base,h.le,h.few⟩
theorem drew (h:RefAt w base r v bs a):RefAt w.drew base r v bs a:=h.kO kq.drew
theorem not_mem (h:RefAt w base r v bs a):r∉v.ownBlock.toList:=fun b=>own_blk_ne h.own h.blk (by decide) (uq b)
theorem c0 (h:RefAt w base r v bs a):cl w r v:=uq (h.blk.cell 0)
theorem c1 (h:RefAt w base r v bs a):cl w (aq r 1) (ii a):=uq (h.blk.cell 1)
theorem fresh (h:RefAt w base r v bs a):∀ x∈r :: v.ownBlock.toList,base<=x:=fun x b=>by
 rcases AL.1 b with rfl | b
 . exact h.base
 exact(own_mem h.own b).1
end RefAt
theorem JD (n lo hi:Int) (b:Bool) (a:decide (lo<=n/\n<=hi)=b) (w:World) :
 cq 147 #[ii n,ii lo,ii hi] w (.bool b):=by
 subst a;exact ZAj n lo hi w
theorem VAC (n:Nat) (c:n<=65536) (w:World) :
 Calls prog 271 #[n] w fun e w'=>∃ r v,e=.returned (pq r)/\RefAt w' w.heap.size r v (List.replicate n 0) 0/\kz w w':=by
 have a:=JD (n:Nat) 0 65536 true (by simp;omega) w;go_enter func271,ntmps271
 go_wp2_with (first
  | (refine a.mono ?_;clear a;rintro e w' ⟨rfl,rfl⟩)
  | (at_make;refine elem8.wp_make rfl _ _ rfl .i64 .i64 n n n rfl rfl rfl rfl Z Z ?_))
 go_ret;have b:=Blk.new (w.alloc (.cells (Array.replicate n (.int .u8 0)) 5)) 325 #[.slice (some w.heap.size) n n,zz];rw[show (w.alloc (.cells (Array.replicate n (.int .u8 0)) 5)).heap.size=w.heap.size+1 from sq] at b
 have d:(w.alloc (.cells (Array.replicate n (.int .u8 0)) 5)).ownsRow w.heap.size 5 1 (.slice (some w.heap.size) n n) n (bys (List.replicate n 0)):=
  QR (Blk.new w 5 (Array.replicate n (.int .u8 0))) (AG _) Z sq (by simp[bys,by8])
 exact⟨_,_,rfl,⟨b,by rw[BD];exact XE d _,Z,AP _,uq c⟩,(kq.alloc _).alloc _⟩
theorem JBc (k:Nat) (a:k=1\/k=4) (w:World):cq 356 #[k] w (ii ((256 ^ k-1:Nat):Int)):=by
 rcases a with rfl | rfl
 all_goals
  go_enter func356,ntmps356
  go_wp2
  go_ret;exact⟨rfl,rfl⟩
theorem XBp {w:World} {base r a:Nat} {v:Value} {bs:List UInt8} (h:RefAt w base r v bs a) {S:Option Addr} (o:Nat) (ys:List UInt8) (q:Rd w S m (bys ys)) (s:a+m<=bs.length) :
 Calls prog 272 #[pq r,.slice S m o] w fun e w'=>e=.returned (.bool true)/\RefAt w' base r v (laid bs a ys) (a+m)/\Keep (r :: v.ownBlock.toList) w w':=by
 obtain⟨A,c,rfl,u,G,_⟩:=XB h.own;have j:=h.c0;have t:=h.c1;have y:=h.few;have d:=h.drew;have k:ys.length=m:=uq q.1
 obtain⟨n,f⟩:=ex bs.length;rw[<- f] at j s u y;have l:=ZB f;have z:=ZB k;have H:a<=n:=Z
 have B:IntKind.i64.wrap ((n:Nat)-(a:Nat):Int)=(n:Nat)-(a:Nat):=by rw[AI];omega
 clear f k;go_enter func272,ntmps272
 go_wp2
 refine ZT (fun w'=>cl w' r (.slice A n c)/\cl w' (aq r 1) (ii a)) 12 [[0,1,2,3,4,5,6,7,8,9,10,11]] ⟨j,t⟩ ?_;simp only[PI];iterate 12 refine wG ?_
 refine VB ?_;clear B
 go_wp2
 refine ZT (fun w'=>cl w' r (.slice A n c)/\cl w' (aq r 1) (ii a)) 10 [[0,1,2,3,4,5,6,7,8,9]] ⟨j,t⟩ ?_;simp only[PI];iterate 10 refine wG ?_
 refine VB ?_;refine elem8.wp_copyOwn rfl (.tmp 26) (.tmp 27) rq base A n c (bys bs) a rq (by have:=d.drew.own;rwa [<- ZA l] at this) S m o (bys ys) rq q (Xk _) s ?_;intro I C g;have i:r∉(Value.slice A n c).ownBlock.toList:=by have:=d.not_mem;rwa [<- ZA l] at this
 have J:=(g.cell (b:=r) d.blk.lt i 1).trans d.c1;have K:=(g.frozen (b:=r) d.blk.lt i 1).trans (d.blk.frozen 1)
 go_wp2
 all_goals
  go_ret
  try (have D:=h.symm;clear h;subst D)
  have f:=ZA l;have k:=ZA z;subst f;have E:(laid bs a ys).length=bs.length:=QG _ _ _ Z;refine⟨rfl,⟨?_,?_,d.base,Z,Z⟩,?_⟩
  . have:=(d.drew.blk.keep g i).set 1 (.int .i64 ((a+m:Nat)))
    simpa using this
  . rw[E,XAI]
    exact own_set C i _
  exact((((Keep.refl [] w).drew.drew).zero).trans g (fun x F=>.inl (Ak _ F))).setCell (p:=⟨r,1,none⟩) (.inl CS) _
theorem JBK (y:Nat) (a:y<=9223372036854775807):Value.int .u8 (bits BinOp.and IntKind.i64 ((y:Nat):Int) 255 % 256)=by8 (UInt8.ofNat (y % 256)):=by
 rw[JBU _ Z Z];unfold by8;rw[CL]
 congr 1
theorem JBo {w:World} {base r a:Nat} (k:Nat) {v:Value} {bs:List UInt8} (h:RefAt w base r v bs a) (hk:k=1\/k=4) (c:Nat) (zs:List Nat) (R:Rd w A m (XP zs))
 (a4:∀ p,A=some p->p.block∉r :: v.ownBlock.toList) (S:∀ z∈zs,z<256 ^ k) (bc:0<m) (G:a+k*m<=bs.length) :
 Calls prog 273 #[pq r,k,.slice A m c] w fun e w'=>e=.returned (.bool true)/\RefAt w' base r v (laid bs a (zs.flatMap (le k))) (a+k*m)/\Keep (r :: v.ownBlock.toList) w w':=by
 have ai:1<=k/\k<=4:=Z
 have aj:m<=k*m:=Nat.le_mul_of_pos_left _ Z;obtain⟨g,l,rfl,hc⟩:=JI h.own Z;have ak:=h.few;have T:=fun W=>JBc k hk W;obtain⟨M,J⟩:∃ M:Nat,M=256 ^ k-1:=⟨_,rfl⟩;have a5:=fun(z:Nat) (S:z<256 ^ k) W=>JD (z:Nat) 0 (M:Nat) true (by rw[AY,J];generalize 256 ^ k=y at *;omega) W;rw[<- J] at T;obtain⟨n,K⟩:=ex bs.length;rw[<- K] at G hc ak;have N:=h.c0;have U:=h.c1;rw[<- K] at N;have a6:=ZB K;have hl:zs.length=m:=uq R.1
 have a7:IntKind.i64.wrap (((m:Nat):Int)*(k:Nat))=((k*m:Nat):Int):=by
  rw[<- CP,AI,CM m k];generalize k*m=y at *;omega
 obtain⟨bd,V⟩:=ex (k*m);rw[<- V] at a7 G aj;have hs:IntKind.i64.wrap ((n:Nat)-(a:Nat):Int)=(n:Nat)-(a:Nat):=by rw[AI];omega
 have X:=ZB hl;have al:=ZB V;have bf:=ZB J;clear hk K hl V J;have bg:m<=65536:=Z
 have am:=h.le;rw[<- ZA a6] at am;have an:decide (((M:Nat):Int)<0)=false:=by rw[AV];omega
 have ao:decide (n<m)=false:=by rw[AV];omega
 go_enter func273,ntmps273;go_wp2_with (refine(T _).mono ?_;clear T;rintro e w' ⟨rfl,rfl⟩);refine ZT (fun w'=>cl w' r (.slice (some g) n l)/\cl w' (aq r 1) (ii a)) 27 [[0,1,2,3,4,5,6,7,8,9,10,11,12,13,14,15,16,17,18,19,20,21,22,23,24,25,26]] ⟨N,U⟩ ?_;simp only[PI];iterate 27 refine wG ?_
 refine VB ?_;clear hs a7
 go_wp2
 go_loop [8] (fun i=>∃ j:Nat,j<=m/\i=.int .i64 j) (fun i=>m-(intOf i).toNat)
 case atStart=>exact⟨0,AP _,rfl⟩
 obtain⟨j,hj,rfl⟩:=hrel;by_cases C:j<m
 . obtain⟨b,o,u,rfl,H,hb,O⟩:=R.at_ C
   have D:j<zs.length:=by rw[ZA X];exact C
   simp only[XP,Aa,AC D,Az,Ab] at H;subst H;have E:=S _ (AN D);generalize zs[j]=z at *;have a8:=a5 z E w.drew;have bh:=ZB E;clear E;go_wp2_with (refine a8.mono ?_;clear a8;rintro e w' ⟨rfl,rfl⟩);go_round;case rel=>exact⟨j+1,Z,by go_num⟩
   case measure=>simp[intOf];omega
 obtain rfl:m=j:=Z
 clear a5 an ao
 go_wp2
 obtain⟨L,I⟩:∃ L,L=r :: (Value.slice (some g) bs.length l).ownBlock.toList:=⟨_,rfl⟩;have ap:g∈L:=by rw[I];simp[Value.ownBlock]
 have ar:r∈L:=by rw[I];simp
 rw[<- I] at a4;have au:=ZB I;clear I;go_loopw [9] (fun i wr=>∃ j:Nat,j<=m/\i=.int .i64 j/\RefAt wr base r (.slice (some g) bs.length l) (laid bs a ((zs.take j).flatMap (le k))) (a+k*j)/\Keep L w wr) (fun i _=>m-(intOf i).toNat)
 case atStart=>exact⟨0,AP _,rfl,uq h.drew,kq.drew⟩
 obtain⟨j,hj,rfl,s,B⟩:=hrel;by_cases C:j<m
 . obtain⟨b,o,u,rfl,H,hb,O⟩:=R.at_ C
   have av:b∉L:=a4 _ rfl;replace O:=(B.cell hb av (o+j)).trans O;have D:j<zs.length:=by rw[ZA X];exact C
   simp only[XP,Aa,AC D,Az,Ab] at H;subst H;have E:=S _ (AN D);have Y:((zs.take j).flatMap (le k)).length=k*j:=by rw[KD,BH];congr 1;omega
   have a0:(zs.take (j+1)).flatMap (le k)=(zs.take j).flatMap (le k)++le k zs[j]:=by rw[AO D,BM];simp
   have aw:k*j+k<=k*m:=by rw[<- DM];exact Nat.mul_le_mul_left _ C
   have ax:a+k*m<=n:=by rw[<- ZA al];exact G
   have a1:=ZA a6;generalize zs[j]=z at *;have ay:z<256 ^ 4:=BP E (CF Z ai.2);obtain⟨t,ht⟩:=ex (a+k*j);obtain⟨F,a9⟩:=ex ((zs.take j).flatMap (le k));rw[<- a9] at s Y a0;rw[<- ht] at s;have bi:t+k<=n:=Z
   have aa:a+F.length=t:=Z
   have ab:z<=9223372036854775807:=Z
   have f:=s.own;have P:(laid bs a F).length=bs.length:=QG _ _ _ Z;rw[P] at f;have d:=s.blk;have az:=ZB a0;have b0:=ZB ht;have a2:=ZB aa;have b1:=ZB ab;have Q:=ZB a1;have b2:=ZB Y;rw[<- a1] at f d;clear a0 ht aa ab ay E a9 P aw ax a1 Y s
   go_wp2
   go_loopw [10,11] (fun x i wi=>∃ q:Nat,q<=k/\i=.int .i64 q/\x=.int .i64 ((z / 256 ^ q:Nat):Int)/\Blk wi r 325 #[.slice (some g) n l,ii ((t+q:Nat):Int)]/\wi.ownsRow base 5 1 (.slice (some g) n l) n (bys (laid bs a (F++le q z)))/\Keep L w wi) (fun _ i _=>k-(intOf i).toNat)
   case atStart=>exact⟨0,AP _,rfl,sq,uq d,uq f,B⟩
   clear d f O B;obtain⟨q,hq,rfl,rfl,d,f,B⟩:=hrel;have N:cl wr r (.slice (some g) n l):=uq (d.cell 0)
   have U:cl wr (aq r 1) (ii ((t+q:Nat):Int)):=uq (d.cell 1)
   have bj:=d.frozen 1;by_cases bk:q<k
   . have a3:(bys (laid bs a (F++le q z))).length=n:=by
      rw[length_bys,QG _ _ _ (by rw[AE,length_le];have:=ZA a2;have:=ZA Q;omega)];exact(ZA Q).symm
     have b3:cl wr (aq g (t+q)) ((bys (laid bs a (F++le q z)))[t+q]'(by rw[a3];omega)):=YI f (AC _);have bl:=XJ f (t+q);generalize (bys (laid bs a (F++le q z)))[t+q]'_=u at b3;have b4:IntKind.i64.wrap ((t:Nat)+(q:Nat):Int)=(t:Nat)+(q:Nat):=by rw[AI];omega
     have bm:(0:Int)<=(t:Nat)+(q:Nat):=Z
     have bn:((t:Nat):Int)+(q:Nat)<(n:Nat):=Z
     have b5:(((t:Nat):Int)+(q:Nat)).toNat=t+q:=Z
     have bo:t+q<n:=Z
     have bp:=d.lt;have b6:z / 256 ^ q<=z:=CY _ _;have ac:=JBK (z / 256 ^ q) (by have:=ZA b1;omega);have ad:z / 256 ^ q / 256=z / 256 ^ (q+1):=by rw[DN,Cg]
     have ae:((z / 256 ^ q:Nat):Int) / 256=((z / 256 ^ (q+1):Nat):Int):=by rw[<- ad];omega
     have b7:=ZB ae;have b8:=ZB ac;have af:r≠g:=fun e=>own_blk_ne f d (by decide) (by simp[Value.ownBlock,e]);have bq:=ZB a3;clear a3 ad ae ac b6;generalize ag:z / 256 ^ q=y at *;have b9:=ZB ag;clear ag
     go_wp2
     refine ZT (fun w'=>cl w' r (.slice (some g) n l)/\cl w' (aq r 1) (ii ((t+q:Nat):Int))) 11 [[0,1,2,3,4,5,6,7,8,9,10]] ⟨N,U⟩ ?_;simp only[PI];iterate 11 refine wG ?_
     refine VB ?_;clear b4 b5
     go_wp2
     have ba:=ZA a2;have ah:=ZA Q;go_roundw
     case rel=>
      refine⟨q+1,Z,by go_num,by rw[ZA b7],?_,?_,((B.setCell (p:=⟨g,t+q,none⟩) (.inl ap) _).setCell (p:=⟨r,1,none⟩) (.inl ar) _).drew⟩
      . have:=(((d.far (p:=⟨g,t+q,none⟩) af (.int .u8 (bits BinOp.and IntKind.i64 ((y:Nat):Int) 255 % 256))).set 1 (.int .i64 ((t+(q+1):Nat):Int))).drew)
        simpa [Int.add_assoc] using this
      rw[ZA b8,le_succ,<- BN,ZA b9]
      have h2:=ZAI f (by rw[AE,length_le];omega) (UInt8.ofNat (y % 256)) (t+q) (by rw[AE,length_le];omega);exact QB (own_set h2 (by simpa [Value.ownBlock] using af) _) kq.drew
     case measure=>simp[intOf];omega
   obtain rfl:k=q:=Z
   go_wp2
   have br:r∉(Value.slice (some g) n l).ownBlock.toList:=fun G=>own_blk_ne f d (by decide) (uq G);have ba:=ZA a2;have bt:=ZA b2;have ah:=ZA Q;have bu:=ZA b0;have bb:=ZA az;subst ah;have P:(laid bs a (F++le k z)).length=bs.length:=QG _ _ _ (by rw[AE,length_le];omega);go_roundw
   case rel=>
    refine⟨j+1,Z,by go_num,?_,B⟩;rw[bb,show a+k*(j+1)=t+k by rw[DM];omega];exact⟨d,by rw[P];exact f,h.base,Z,Z⟩
   case measure=>simp[intOf];omega
 obtain rfl:m=j:=Z
 go_wp2
 go_ret;rw[AK (Ar (ZA X))] at s;exact⟨rfl,s,by rw[<- ZA au];exact B⟩
theorem XAv (c:Nat) (h:c<256):((c:Nat):Int)=((BitVec.ofNat 32 c).toNat:Nat):=by
 rw[Bn,BO Z]
theorem ZAz (z:BitVec 32) (c:Nat) (h:c<256) :
 (bits BinOp.and IntKind.u32 (bits BinOp.xor IntKind.u32 (z.toNat:Nat) ((c:Nat):Int)) 1 == 1)=decide ((z ^^^ BitVec.ofNat 32 c) &&& 1#32=1#32):=by
 rw[XAv c h,QAH,show (1:Int)=((1#32:BitVec 32).toNat:Nat) from rq,KAs];rw[Bh,CK,AY];rw[Int.natCast_inj,Dp]
theorem VBm (c:Nat) (bs:List UInt8) {w:World} (g:Rd w A n (bys bs)) (G:n<=9223372036854775807) :
 cq 357 #[zz,.slice A n c] w (KM bs:Nat):=by
 have h:bs.length=n:=uq g.1
 have j:=ZB h;clear h;have d:=JAU 0 4294967296 w Z Z;simp only[Int.zero_emod] at d;go_enter func357,ntmps357;go_wp2_with (refine d.mono ?_;clear d;rintro e w' ⟨rfl,rfl⟩);go_loop [5,6] (fun v i=>∃ k:Nat,k<=n/\i=.int .i64 k/\v=.int .u32 ((VN 0xFFFFFFFF#32 (bs.take k)).toNat:Nat)) (fun _ i=>n-(intOf i).toNat)
 case atStart=>exact⟨0,AP _,rfl,rfl⟩
 obtain⟨k,H,rfl,rfl⟩:=hrel;by_cases l:k<n
 . obtain⟨b,o,u,rfl,p,a,E⟩:=g.at_ l
   have r:k<bs.length:=by rw[ZA j];exact l
   rw[Yn _ _ r,Ab] at p;subst p;have s:VN 0xFFFFFFFF#32 (bs.take (k+1))=XN (VN 0xFFFFFFFF#32 (bs.take k)) bs[k] 8:=by rw[AO r,Qz]
   have F:=ZB s;clear s;generalize VN 0xFFFFFFFF#32 (bs.take k)=y at *;generalize bs[k]=cc at *;have I:=cc.toNat_lt;unfold by8 at E
   go_wp2
   go_loop [5,7,8,9] (fun v x i _=>∃ m:Nat,m<=8/\i=.int .i64 m/\x=.int .u32 ((cc.toNat / 2 ^ m:Nat):Int)/\v=.int .u32 ((XN y cc m).toNat:Nat)) (fun _ _ i _=>8-(intOf i).toNat)
   case atStart=>exact⟨0,AP _,rfl,sq,rfl⟩
   obtain⟨m,J,rfl,rfl,rfl⟩:=hrel;by_cases K:m<8
   . have t:=QM y cc m
     have L:cc.toNat / 2 ^ m<=cc.toNat:=CY _ _
     have B:((cc.toNat / 2 ^ m:Nat):Int) / 2=((cc.toNat / 2 ^ (m+1):Nat):Int):=by
      rw[Cg,<- DN];omega
     have C:=ZB t;have D:=ZB B;have d:=ZAz (XN y cc m) (cc.toNat / 2 ^ m) Z;clear t B;generalize XN y cc m=z at *;generalize cc.toNat / 2 ^ m=q at *;by_cases a:(z ^^^ BitVec.ofNat 32 q) &&& 1#32=1#32
     . rw[AH a] at d
       have f:=ZB a;clear a
       go_wp2
       go_round;case rel=>exact⟨m+1,Z,by go_num,by rw[ZA D],by rw[ZA C,XX,AJ (ZA f),ZAa]⟩
       case measure=>simp[intOf];omega
     rw[AU a] at d
     have f:=ZB a;clear a
     go_wp2
     go_round;case rel=>exact⟨m+1,Z,by go_num,by rw[ZA D],by rw[ZA C,XX,AF (ZA f),QAI]⟩
     case measure=>simp[intOf];omega
   obtain rfl:m=8:=Z
   go_wp2
   go_round;case rel=>exact⟨k+1,Z,by go_num,by rw[ZA F]⟩
   case measure=>simp[intOf];omega
 obtain rfl:k=n:=Z
 go_wp2
 go_ret;exact⟨JL (by rw[AK (Ar (ZA j))];exact YAz _),rfl⟩
theorem ZBm (c:Nat) (bs:List UInt8) {w:World} (b:Rd w A n (bys bs)) (d:n<=9223372036854775807) :
 cq 275 #[.slice A n c] w (KM bs:Nat):=by
 have a:=VBm c bs b d;go_enter func275,ntmps275;go_wp2_with (refine a.mono ?_;clear a;rintro e w' ⟨rfl,rfl⟩);go_ret;exact⟨rfl,rfl⟩
theorem QBp {w1 b:World} (base r a k z:Nat) (v:Value) (bs:List UInt8) (h:RefAt b base r v bs a) (g:k=1\/k=4) (i:z<256 ^ k) (t:a+k<=bs.length) (j:kz w1 b) (l:base=w1.heap.size) :
 Calls prog 274 #[pq r,k,z] b fun e w'=>e=.returned (.tuple #[])/\RefAt w' base r v (laid bs a (le k z)) (a+k)/\kz w1 w':=by
 have n:=j.alloc (.cells #[z] 3);have d:RefAt (b.alloc (.cells #[z] 3)) base r v bs a:=h.kO (kq.alloc _)
 have f:=JBo k d g (A:=(some ⟨b.heap.size,0,none⟩)) (m:=1) 1 [z] (XS _ _ _) (fun p o=>by
  cases o;intro c;rcases AL.1 c with e | c
  . exact absurd (show b.heap.size=r from e) (C7 h.blk.lt)
  exact absurd (own_mem h.own c).2 (CQ _)) (uq i) Z Z
 go_enter func274,ntmps274;go_wp2_with (refine f.mono ?_;clear f;rintro e w' ⟨rfl,q,s⟩)
 go_end0
 subst l;exact⟨rfl,uq q,n.trans s (fun x c=>.inr (d.fresh x c))⟩
def Yb (x:Int) (n:Nat):List UInt8:=(List.range n).map fun k=>UInt8.ofNat (((x % 256).toNat+k) % 256)
def XY (x:Int):List UInt8:=Yb x 64
theorem JAW (x:Int) (n:Nat):Yb x (n+1)=Yb x n++[UInt8.ofNat (((x % 256).toNat+n) % 256)]:=by simp[Yb,Bq]
@[simp] theorem length_fillUp (x:Int) (n:Nat):(Yb x n).length=n:=by simp[Yb]
@[simp] theorem length_fillOf (x:Int):(XY x).length=64:=by simp[XY]
theorem YAb (x:Int) (w:World):Calls prog 28 #[ii x] w fun r w'=>∃ u,r=.returned u/\w'.ownsRow w.heap.size 5 1 u 64 (bys (XY x))/\kz w w':=by
 have f:∀ W:World,(Instr.makeSlice 66 (.int .i64 64) (.int .i64 64)).run prog W=.ok (.slice (some (aq W.heap.size 0)) 64 64) (W.alloc (.cells (Array.replicate 64 (.int .u8 0)) 5)):=fun W=>elem8.run_make .i64 .i64 64 64 Z Z Z W
 have m:(w.alloc (.cells (Array.replicate 64 (.int .u8 0)) 5)).ownsRow w.heap.size 5 1 (.slice (some w.heap.size) 64 64) 64 (bys (laid (List.replicate 64 0) 0 (Yb x 0))):=
  QR (Blk.new w 5 _) (AG _) Z sq (by simp[Yb,bys,by8,laid])
 obtain⟨y,b,v,z⟩:∃ y:Nat,x % 256=(y:Int)/\0<=y/\y<256:=⟨(x % 256).toNat,Z,Z,Z⟩;have g:=fun W=>VV x 256 W Z Z;rw[b] at g;have n:=ZB b;clear b;have o:=f w;go_enter func28,ntmps28
 go_wp2
 clear f o;go_loopw [4] (fun i wr=>∃ k:Nat,k<=64/\i=.int .i64 k/\wr.ownsRow w.heap.size 5 1 (.slice (some w.heap.size) 64 64) 64 (bys (laid (List.replicate 64 0) 0 (Yb x k)))/\kz w wr) (fun i _=>(64-(intOf i)).toNat)
 case atStart=>exact⟨0,Z,rfl,m,kq.alloc _⟩
 obtain⟨k,A,rfl,a,h⟩:=hrel;by_cases q:k<64
 . have j:=g wr
   have l:=fun W=>VV ((y:Nat)+(k:Nat)) 256 W Z Z;have c:(bys (laid (List.replicate 64 (0:UInt8)) 0 (Yb x k))).length=64:=by rw[length_bys,QG _ _ _ (by simp;omega)];simp
   have s:cl wr (aq w.heap.size k) ((bys (laid (List.replicate 64 (0:UInt8)) 0 (Yb x k)))[k]'(by rw[c];exact q)):=YI a (AC _);have B:=XJ a k;generalize (bys (laid (List.replicate 64 (0:UInt8)) 0 (Yb x k)))[k]'_=u at s;have C:=ZB c;clear c
   go_wp2_with (first
    | (refine j.mono ?_;clear j;rintro e w' ⟨rfl,rfl⟩)
    | (refine(l _).mono ?_;clear l;rintro e w' ⟨rfl,rfl⟩))
   go_roundw
   case rel=>
    refine⟨k+1,Z,by go_num,?_,h.setCell (p:=⟨w.heap.size,k,none⟩) (.inr (AG _)) _⟩;rw[JAW];have d:=ZAI a (by simp;omega) (UInt8.ofNat (((x % 256).toNat+k) % 256)) k sq
    have t:by8 (UInt8.ofNat (((x % 256).toNat+k) % 256))=.int .u8 ((((y:Nat):Int)+(k:Nat)) % 256):=by
     rw[ZA n];unfold by8;rw[CL]
     congr 1
     omega
    rw[t] at d
    first | exact d | simpa using d
   case measure=>simp[intOf];omega
 obtain rfl:k=64:=Z
 go_wp2
 go_ret;refine⟨_,rfl,?_,h⟩;rw[Ks _ _ sq] at a;exact a
theorem VBj (y p:UInt8):bits BinOp.xor IntKind.u8 (y.toNat:Nat) (p.toNat:Nat)=((y ^^^ p).toNat:Nat):=by
 have a:(BitVec.ofInt 8 ((y.toNat:Nat):Int)).toNat=y.toNat:=by
  rw[B1,Bn];exact BO y.toNat_lt
 have b:(BitVec.ofInt 8 ((p.toNat:Nat):Int)).toNat=p.toNat:=by
  rw[B1,Bn];exact BO p.toNat_lt
 have c:=(y ^^^ p).toNat_lt;show IntKind.u8.wrap ((BitVec.ofInt 8 ((y.toNat:Nat):Int) ^^^ BitVec.ofInt 8 ((p.toNat:Nat):Int)).toNat:Int)=_;rw[BitVec.toNat_xor,a,b,IntKind.wrap_u8,<- UInt8.toNat_xor];omega
theorem KBQ (e:Nat) (a:e<8) (W:World):(Op.shift .shl .u8 1 .i64 (e:Nat)).run P W=.ok (.int .u8 ((UInt8.ofNat (2 ^ e)).toNat:Nat)) W:=by
 have:e=0\/e=1\/e=2\/e=3\/e=4\/e=5\/e=6\/e=7:=Z
 rcases this with rfl | rfl | rfl | rfl | rfl | rfl | rfl | rfl <;> rfl
def Zu (bs:List UInt8) (f:Nat):List UInt8:=bs.set (f / 8) (bs.getD (f / 8) 0 ^^^ UInt8.ofNat (2 ^ (f % 8)))
theorem VAm (c:Nat) (bs:List UInt8) (x:Int) {w:World} (j:Rd w A n (bys bs)) (N:1<=n) (O:n<=1000) (D:n<=c) :
 Calls prog 277 #[.slice A n c,ii n,ii x,.int .u32 1] w fun r w'=>∃ u,r=.returned (.tuple #[u,.bool true])/\w'.ownsRow w.heap.size 5 1 u n (bys (Zu bs (x % (8*n)).toNat))/\kz w w':=by
 have l:bs.length=n:=uq j.1
 have m:=Yl c bs 0 n j Z Z Z D Z;rw[show ((n:Int)-0).toNat=n from Z,show (List.take n (List.drop (Int.toNat 0) bs))=bs by rw[<- l];simp] at m;obtain⟨f,h,Q⟩:∃ f:Nat,x % (8*n)=f/\f<8*n:=⟨(x % (8*n)).toNat,by have:=DW x (show (8*(n:Int))≠0 from Z);omega,by have:=Dh x (show 0<8*(n:Int) from Z);omega⟩;have o:=fun W=>VV x (8*n) W Z Z;rw[h] at o;rw[h];have R:=ZB h;have E:=ZB l;clear h l;go_enter func277,ntmps277
 go_wp2_with (first
  | (refine m.mono ?_;clear m;rintro e w1 ⟨u,rfl,b,d⟩;obtain⟨F,G,rfl,_,_,s,t⟩:=XB b)
  | (refine(o _).mono ?_;clear o;rintro e w' ⟨rfl,rfl⟩))
 clear j;rcases F with _ | a
 . have:=(s rfl).1;omega
 obtain⟨g,rfl⟩:=t a rfl;clear s t;go_loopw [12,13] (fun y i wr=>∃ k:Nat,k<=32/\i=.int .i64 k/\y=.bool (decide (0<k))/\wr.ownsRow w.heap.size 5 1 (.slice (some g) n G) n (bys (if k=0 then bs else Zu bs f))/\kz w wr) (fun _ i _=>(32-(intOf i)).toNat)
 case atStart=>exact⟨0,Z,rfl,rfl,b,d⟩
 clear b d;obtain⟨k,S,rfl,rfl,b,d⟩:=hrel;by_cases T:k<32
 . by_cases v:k=0
   . subst v
     rw[AJ rfl] at b;have q:f / 8<bs.length:=by rw[ZA E];omega
     have z:wr.drew.cell? (aq g (f / 8))=some (.int .u8 ((bs.getD (f / 8) 0).toNat)):=YI (QB b kq.drew) (by simp[bys,by8,AA,AC q]);have U:=XJ (QB b (Keep.refl [] wr).drew) (f / 8);have B:=own_mem b (g:=g) (by simp[Value.ownBlock]);generalize C:bs.getD (f / 8) 0=bb at z;have H:=ZB C;have V:=ZB q;clear C q
     go_wp2
     refine ZT (fun w'=>cl w' (aq g (f / 8)) (.int .u8 (bb.toNat:Nat))) 18 [[0,1,2,3,4,5,6,7,8,9,10,11,12,13,14,15,16,17]] z ?_;simp only[PI];iterate 10 refine wG ?_
     have I:IntKind.i64.wrap (f:Int)=f:=by rw[AI];omega
     have J:IntKind.i64.wrap ((f:Int).tdiv 8)=((f / 8:Nat):Int):=by
      rw[CT Z];rw[AI];omega
     have X:IntKind.i64.wrap ((f:Int).tmod 8)=((f % 8:Nat):Int):=by
      rw[Bu Z];rw[AI];omega
     simp only[I,J];refine XV (.pointer (some (aq g (f / 8)))) rq ?_ ?_
     . intro W K
       go_simp;rw[AJ ⟨Z,Z⟩]
       try rfl
     iterate 5 refine wG ?_
     have L:(f:Int).tmod 8=((f % 8:Nat):Int):=by rw[Bu Z];omega
     simp only[L];refine XV (.int .u8 ((UInt8.ofNat (2 ^ (f % 8))).toNat:Nat)) rq ?_ ?_
     . intro W K
       have:=KBQ (P:=prog) (f % 8) Z W;go_simp;rw[show ((f:Int) % 8).toNat=f % 8 from Z,IntKind.wrap_u8]
     iterate 1 refine wG ?_
     refine VB ?_;have Y:IntKind.i64.wrap ((f / 8:Nat):Int)=((f / 8:Nat):Int):=by rw[AI];omega
     have a0:((f / 8:Nat):Int)<n:=Z
     have a1:=B.2
     go_wp2
     go_roundw
     case rel=>
      refine⟨1,Z,rfl,sq,?_,(d.setCell (p:=⟨g,f / 8,none⟩) (.inr B.1) _).drew⟩;have e:((2 ^ (f % 8) % 256:Int))=((UInt8.ofNat (2 ^ (f % 8))).toNat:Nat):=by rw[CL];simp
      rw[e,VBj,AF Z];have:=QB (QW b (f / 8) (by8 (bb ^^^ UInt8.ofNat (2 ^ (f % 8))))) (Keep.refl [] _).drew;unfold Zu;rw[ZA H];simpa [bys,Ci,by8] using this
     case measure=>simp[intOf]
   have a2:bits .and .u32 (1 / 2 ^ k) 1=0:=by
    have h1:2 ^ 1<=2 ^ k:=CF Z Z;have M:(1:Int) / 2 ^ k=0:=Int.ediv_eq_zero_of_lt Z (by exact_mod_cast (by omega:1<2 ^ k));rw[M]
    decide
   go_wp2
   go_roundw
   case rel=>
    refine⟨k+1,Z,by go_num,by simp;omega,?_,d⟩;rw[AF v] at b;rw[AF Z];exact b
   case measure=>simp[intOf];omega
 obtain rfl:k=32:=Z
 go_wp2
 go_ret2;rw[AF Z] at b;exact⟨_,rfl,uq b,d⟩