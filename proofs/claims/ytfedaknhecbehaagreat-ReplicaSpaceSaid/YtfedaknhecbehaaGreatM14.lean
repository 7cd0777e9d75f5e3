/- Lemmas of the proof, with their conditions. -/
import Derived.Test.YtfedaknhecbehaaGreatM10
import Derived.Test.YtfedaknhecbehaaGreatM11
import Derived.Test.YtfedaknhecbehaaGreatM13
namespace Go.Proofs.YtfedaknhecbehaaGreat
open Tryz Go.RowKit
variable {q:Value×List UInt8} {cs:Array Value}
set_option linter.all false
set_option maxHeartbeats 2000000
set_option maxRecDepth 20000
structure PW where
 pos:PPos
 items:List PItem
 blocks:List (List UInt8)
structure WriterIs (w:World) (base p d g t:Nat) (I B:Value) (ls:List (Value×List UInt8)) (F:List Nat) (W:PW):Prop where
 blk:Blk w p 273 #[pq d,pq g,pq t,ii W.pos.seg,ii W.pos.off,ii W.pos.lsn,ii W.pos.prev,ii W.pos.mount,I,B]
 its:w.ownsRow base 178 4 I W.items.length (W.items.flatMap itc)
 bls:w.ownsRow base 66 1 B ls.length (ls.map (·.1))
 dat:∀ q∈ls,w.ownsRow base 5 1 q.1 64 (bys q.2)
 snd:ls.map (·.2)=W.blocks
 foot:F=p :: (I.ownBlock.toList++(B.ownBlock.toList++ls.flatMap (fun q=>q.1.ownBlock.toList)))
 base:base<=p
def WriterAt (w:World) (base p d g t:Nat) (F:List Nat) (W:PW):Prop:=∃ I B ls,WriterIs w base p d g t I B ls F W
theorem QE {w:World} {g:Nat} {t:TypeId} {a b c d e f i j k l:Value} (h:Blk w g t #[a,b,c,d,e,f,i,j,k,l]) :
 cl w g a/\cl w (aq g 1) b/\cl w (aq g 2) c/\cl w (aq g 3) d/\cl w (aq g 4) e/\cl w (aq g 5) f/\cl w (aq g 6) i/\cl w (aq g 7) j/\cl w (aq g 8) k/\cl w (aq g 9) l:=
 ⟨uq (h.cell 0),uq (h.cell 1),uq (h.cell 2),uq (h.cell 3),uq (h.cell 4),uq (h.cell 5),uq (h.cell 6),uq (h.cell 7),uq (h.cell 8),uq (h.cell 9)⟩
namespace WriterIs
variable {w w':World} {base p d g t:Nat} {I B:Value} {ls:List (Value×List UInt8)} {F l:List Nat} {W:PW}
theorem mem (h:WriterIs w base p d g t I B ls F W) {x:Nat} (a:x∈F):x=p\/x∈I.ownBlock.toList\/x∈B.ownBlock.toList\/∃ q∈ls,x∈q.1.ownBlock.toList:=by
 rw[h.foot] at a;simp only[AL,AD,Bs] at a;exact a
theorem inP (h:WriterIs w base p d g t I B ls F W):p∈F:=by rw[h.foot];simp
theorem inI (h:WriterIs w base p d g t I B ls F W):∀ x∈I.ownBlock.toList,x∈F:=fun x a=>by rw[h.foot];exact Ak _ (At _ a)
theorem inB (h:WriterIs w base p d g t I B ls F W):∀ x∈B.ownBlock.toList,x∈F:=fun x a=>by rw[h.foot];exact Ak _ (A6 _ (At _ a))
theorem inQ (h:WriterIs w base p d g t I B ls F W) (a:q∈ls):∀ x∈q.1.ownBlock.toList,x∈F:=fun x b=>by
 rw[h.foot];exact Ak _ (A6 _ (A6 _ (Bs.2 ⟨q,a,b⟩)))
theorem keep (h:WriterIs w base p d g t I B ls F W) (b:Keep l w w') (c:Apart F l):WriterIs w' base p d g t I B ls F W:=
 ⟨h.blk.keep b (c _ h.inP),KA h.its b fun x a=>c _ (h.inI x (uq a)),KA h.bls b fun x a=>c _ (h.inB x (uq a)),fun q e=>KA (h.dat q e) b fun x a=>c _ (h.inQ e x (uq a)),h.snd,h.foot,h.base⟩
theorem kO (h:WriterIs w base p d g t I B ls F W) (a:kz w w'):WriterIs w' base p d g t I B ls F W:=h.keep a Apart.nil_right
theorem lt (h:WriterIs w base p d g t I B ls F W):∀ x∈F,x<w.heap.size:=by
 intro x a;rcases h.mem a with rfl | a | a | ⟨q,hq,a⟩
 . exact h.blk.lt
 . exact(own_mem h.its a).2
 . exact(own_mem h.bls a).2
 exact(own_mem (h.dat q hq) a).2
theorem ge (h:WriterIs w base p d g t I B ls F W):∀ x∈F,base<=x:=by
 intro x a;rcases h.mem a with rfl | a | a | ⟨q,hq,a⟩
 . exact h.base
 . exact(own_mem h.its a).1
 . exact(own_mem h.bls a).1
 exact(own_mem (h.dat q hq) a).1
theorem len (h:WriterIs w base p d g t I B ls F W):ls.length=W.blocks.length:=by rw[<- h.snd];simp
theorem pI (h:WriterIs w base p d g t I B ls F W):p∉I.ownBlock.toList:=fun a=>own_blk_ne h.its h.blk (by decide) (uq a)
theorem pB (h:WriterIs w base p d g t I B ls F W):p∉B.ownBlock.toList:=fun a=>own_blk_ne h.bls h.blk (by decide) (uq a)
theorem pQ (h:WriterIs w base p d g t I B ls F W) (a:q∈ls):p∉q.1.ownBlock.toList:=fun b=>own_blk_ne (h.dat q a) h.blk (by decide) (uq b)
theorem rws (h:WriterIs w base p d g t I B ls F W) {A:Option Addr} {c:Nat} (a:B=.slice A ls.length c):Rws w A ls.length ls:=
 ⟨Rd.of_own (by rw[<- a];exact h.bls),fun q b=>Bts.of_own (h.dat q b) Z⟩
theorem setPos (h:WriterIs w base p d g t I B ls F W) (P:PPos) (f:Blk w' p 273 #[pq d,pq g,pq t,ii P.seg,ii P.off,ii P.lsn,ii P.prev,ii P.mount,I,B]) (c:Keep [p] w w') :
 WriterIs w' base p d g t I B ls F { W with pos:=P }:=
 ⟨f,KA h.its c fun x b a=>h.pI (by simp at a;subst a;simpa using b),KA h.bls c fun x b a=>h.pB (by simp at a;subst a;simpa using b),fun q e=>KA (h.dat q e) c fun x b a=>h.pQ e (by simp at a;subst a;simpa using b),h.snd,h.foot,h.base⟩
end WriterIs
namespace WriterAt
variable {w w':World} {base p d g t:Nat} {F l:List Nat} {W:PW}
theorem keep (h:WriterAt w base p d g t F W) (a:Keep l w w') (b:Apart F l):WriterAt w' base p d g t F W:=by obtain⟨I,B,ls,h⟩:=h;exact⟨I,B,ls,h.keep a b⟩
theorem kO (h:WriterAt w base p d g t F W) (a:kz w w'):WriterAt w' base p d g t F W:=h.keep a Apart.nil_right
theorem lt (h:WriterAt w base p d g t F W):∀ x∈F,x<w.heap.size:=by obtain⟨I,B,ls,h⟩:=h;exact h.lt
theorem ge (h:WriterAt w base p d g t F W):∀ x∈F,base<=x:=by obtain⟨I,B,ls,h⟩:=h;exact h.ge
end WriterAt
def YC (off m:Nat):Nat:=max off 1+1+m
theorem Za (a m:Nat) (d:a<=1000) (f:m<=1000) (w:World):cq 333 #[a,m] w (YC a m:Nat):=by
 unfold YC;by_cases h:a<=1
 . have e:max a 1=1:=Z
   have b:((a:Nat):Int)<=1:=Z
   rw[e];have c:max ((a:Nat):Int) 1=1:=Z
   go_enter func333,ntmps333
   go_wp2
   go_ret;exact⟨JL sq,rfl⟩
 have e:max a 1=a:=Z
 have b:(1:Int)<=(a:Nat):=Z
 rw[e];have c:max ((a:Nat):Int) 1=(a:Nat):=Z
 go_enter func333,ntmps333
 go_wp2
 go_ret;exact⟨JL sq,rfl⟩
theorem Zc {w:World} {p g B:Nat} (i:Blk w p 273 cs) (j:cs[1]? = some (.pointer (some g))) (k:GeomAt w g B) (a n m:Nat) (r:a<=100) (s:n<=7) (t:m<=100) :
 cr 346 #[pq p,a,n,m] w (.bool (decide (n<=6/\YC a m<24))):=by
 have c:w.drew.cell? (aq p 1)=some (.pointer (some g)):=(i.drew.cell 1).trans j;have d:=fun W=>Za a m Z Z W;have f:=fun W (l:kz w W)=>ConfigG_is W g B (k.kO l);have u:=fun W=>KE (P:=prog) underlying28 2 rfl isAgg3 #[ii B,ii 8,ii 24] rfl W;generalize YC a m=b at *;by_cases h:n<=6
 . have v:((n:Nat):Int)<=6:=Z
   go_enter func346,ntmps346;go_wp2_with fail;refine ZT (fun w'=>cl w' (aq p 1) (pq g)) 10 [[0,1,2,3,4,6,7,8,9],[5]] c ?_;simp only[PI];iterate 9 refine wG ?_
   refine JB rq fun K o=>?_;go_wp2_with (refine(d _).mono ?_;clear d;rintro e w' ⟨rfl,rfl⟩);refine o _ _ (c) ?_
   try simp only[Act.put,PU]
   refine VB ?_;go_wp2_with (refine(f _ kq.drew).mono ?_;clear f;rintro e w' ⟨rfl,q⟩);go_ret;exact⟨JF (by simp[h];omega),kq.drew.tO q⟩
 obtain rfl:n=7:=Z
 clear h;go_enter func346,ntmps346;go_wp2_with fail;refine ZT (fun w'=>cl w' (aq p 1) (pq g)) 10 [[0,1,2,3,4,6,7,8,9],[5]] c ?_;simp only[PI];iterate 3 refine wG ?_
 iterate 6 (refine Xm rq ?_;simp only[Act.put,PU])
 refine YX rq c ?_;simp only[Act.put,PU];refine VB ?_;go_wp2_with fail;go_ret;exact⟨JF sq,kq.drew⟩
theorem ZAN {w:World} {p g B:Nat} (c:Blk w p 273 cs) (m:cs[1]? = some (.pointer (some g))) (d a:Nat) (n:d<=7) (u:a<=100) (o:cs[3]? = some (.int .i64 d)) (q:cs[4]? = some (.int .i64 a)) (h:GeomAt w g B) :
 cr 239 #[pq p] w (ii ((6+4*pgs B+24*d+YC a 0:Nat))):=by
 have i:w.drew.cell? (aq p 1)=some (.pointer (some g)):=(c.drew.cell 1).trans m;have j:w.drew.cell? (aq p 3)=some (.int .i64 d):=(c.drew.cell 3).trans o;have k:w.drew.cell? (aq p 4)=some (.int .i64 a):=(c.drew.cell 4).trans q;have l:=fun W=>Za a 0 Z Z W;have r:=fun W (s:kz w W)=>Zg W g B (h.kO s) d n;have v:=(ZD h.pos h.few).2;have y:YC a 0<=1000:=by unfold YC;omega
 generalize pgs B=P at *;generalize YC a 0=b at *;go_enter func239,ntmps239;go_wp2_with fail;refine ZT (fun w'=>cl w' (aq p 1) (pq g)/\cl w' (aq p 3) (ii d)/\cl w' (aq p 4) (ii a)) 15 [[0,1,2,3,4,5,6,7,8,10,11,12,13,14],[9]] ⟨i,j,k⟩ ?_;simp only[PI];iterate 14 refine wG ?_
 refine JB rq fun K t=>?_;go_wp2_with (refine(r _ kq.drew).mono ?_;rintro e z ⟨rfl,f⟩);refine t _ _ (⟨(f.cell c.lt sq _).trans i,(f.cell c.lt sq _).trans j,(f.cell c.lt sq _).trans k⟩) ?_
 try simp only[Act.put,PU]
 refine VB ?_;go_wp2_with (refine(l _).mono ?_;clear l;rintro e w' ⟨rfl,rfl⟩);go_ret;exact⟨JL sq,kq.drew.tO f⟩
theorem ZBc {w:World} {g B:Nat} (d t:Nat) (i:GeomAt w g B) {P:PPos} (j:P.May) :
 Calls prog 185 #[pq d,pq g,pq t,.agg P.cs.toArray] w fun e w'=>∃ p F,e=.returned (pq p)/\WriterAt w' w.heap.size p d g t F ⟨P,[],[]⟩/\kz w w':=by
 have c:=fun W (a:kz w W)=>QAc (i.kO a) j;obtain⟨k,l,m,n,o⟩:=P;simp only[PPos.cs] at *;have q:=Blk.new w 49 #[ii k,ii l,ii m,ii n,ii o];go_enter func185,ntmps185
 go_wp2_with (
  (refine(c _ (kq.alloc _)).mono ?_)
  clear c;rintro e b ⟨rfl,f⟩;have h:=q.kO f;obtain⟨r,s,u,v,y⟩:=VD h;have z:=h.lt)
 go_ret;have a:kz w b:=(kq.alloc _).tO f;exact⟨b.heap.size,[b.heap.size],rfl,⟨.slice none 0 0,.slice none 0 0,[],Blk.new _ _ _,AZ _ _ _ _,AZ _ _ _ _,sq,rfl,rfl,a.size⟩,a.alloc _⟩
theorem VAo (w:World) (p:Nat) (b c d e f:Value) (P:PPos) (a:Blk w p 273 #[b,c,d,ii P.seg,ii P.off,ii P.lsn,ii P.prev,ii P.mount,e,f]) :
 cr 88 #[pq p] w (.agg P.cs.toArray):=by
 obtain⟨l,m,n,o,q,r,s,t,u,y⟩:=QE a;have z:=a.lt;have A:¬ p=w.heap.size:=Z
 have B:¬ w.heap.size=p:=Z
 obtain⟨g,h,i,j,k⟩:=P;simp only[PPos.cs] at *;go_enter func88,ntmps88
 go_wp2
 refine Ac (v:=.agg #[ii g,ii h,ii i,ii j,ii k]) (by simp[results,results88,go_sem]) rfl ?_;exact⟨rfl,kq.alloc _⟩