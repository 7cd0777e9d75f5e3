/- Lemmas of the proof, with their conditions. -/
import Derived.Test.YtfedaknhecbehaaGreatL14
import Derived.Test.YtfedaknhecbehaaGreatL23
import Derived.Test.YtfedaknhecbehaaGreatL05
namespace Go.Proofs.YtfedaknhecbehaaGreat
open Tryz Go.RowKit Go.Shelf
variable {g n:Nat} {z:Int}
set_option linter.all false
set_option maxHeartbeats 4000000
set_option maxRecDepth 20000
structure PagedIs (w:World) (base p:Nat) (L U:Value) (F:List Nat) (l:List Int) (ds:List Bool):Prop where
 blk:Blk w p 396 #[L,ii 15,U]
 rl:w.ownsRow base 3 1 L l.length (VM l)
 rd:w.ownsRow base 4 1 U ds.length (ds.map .bool)
 foot:F=p :: (L.ownBlock.toList++U.ownBlock.toList)
 base:base<=p
 pos:1<=l.length
 few:l.length<=64
 pages:ds.length=pgs l.length
def PagedAt (w:World) (base p:Nat) (F:List Nat) (l:List Int) (ds:List Bool):Prop:=∃ L U,PagedIs w base p L U F l ds
namespace PagedIs
variable {w w':World} {base p:Nat} {L U:Value} {F k:List Nat} {l:List Int} {ds:List Bool}
theorem keep (h:PagedIs w base p L U F l ds) (b:Keep k w w') (c:Apart F k):PagedIs w' base p L U F l ds:=by
 have a:=h.foot;exact⟨h.blk.keep b (c p (by simp[a])),XB h.rl b fun g d=>c g (by simp[a,d]),XB h.rd b fun g d=>c g (by simp[a,d]),a,h.base,h.pos,h.few,h.pages⟩
theorem kO (h:PagedIs w base p L U F l ds) (a:kz w w'):PagedIs w' base p L U F l ds:=h.keep a Apart.nil_right
theorem lt (h:PagedIs w base p L U F l ds):∀ x∈F,x<w.heap.size:=by
 rw[h.foot];intro x a;simp only[AM,AD] at a;rcases a with rfl | a | a
 . exact h.blk.lt
 . exact(own_mem h.rl a).2
 exact(own_mem h.rd a).2
theorem ge (h:PagedIs w base p L U F l ds):∀ x∈F,base<=x:=by
 rw[h.foot];intro x a;simp only[AM,AD] at a;rcases a with rfl | a | a
 . exact h.base
 . exact(own_mem h.rl a).1
 exact(own_mem h.rd a).1
theorem forms (h:PagedIs w base p L U F l ds):∃ g c u a,L=.slice (some (aq g 0)) l.length c/\U=.slice (some (aq u 0)) ds.length a/\g≠u/\p≠g/\p≠u:=by
 have b:=(JD h.pos h.few).1;have d:=h.pages;obtain⟨g,c,rfl,_⟩:=JE h.rl h.pos;obtain⟨u,a,rfl,_⟩:=JE h.rd Z;exact⟨g,c,u,a,rfl,rfl,fun e=>own_ne h.rl h.rd (by decide) rfl (by simp[Value.ownBlock,e]),fun e=>own_blk_ne h.rl h.blk (by decide) (by simp[Value.ownBlock,e]),fun e=>own_blk_ne h.rd h.blk (by decide) (by simp[Value.ownBlock,e])⟩
theorem cells (h:PagedIs w base p L U F l ds):cl w p L/\cl w (aq p 1) (ii 15)/\cl w (aq p 2) U:=
 ⟨uq (h.blk.cell 0),uq (h.blk.cell 1),uq (h.blk.cell 2)⟩
end PagedIs
theorem Qs {w:World} {base p c:Nat} {U:Value} {F:List Nat} {l:List Int} {ds:List Bool} (h:PagedIs w base p (.slice (some g) l.length c) U F l ds) (i:Nat) (hi:i<l.length):cl w (aq g i) (.int .i64 l[i]):=
 QJ h.rl (by simp[VM,i64,hi])
section
variable (w:World) (base p:Nat) (F:List Nat) (l:List Int) (ds:List Bool) (h:PagedAt w base p F l ds)
include h
theorem LenP_is:cq 344 #[pq p] w l.length:=by
 obtain⟨L,U,h⟩:=h;obtain⟨g,c,u,a,rfl,rfl,_⟩:=h.forms;obtain⟨b,d,e⟩:=h.cells;go_enter func344,ntmps344
 go_wp2
 go_ret;exact⟨rfl,rfl⟩
theorem Jm (i:Nat) (hi:i<l.length):cq 235 #[pq p,i] w (.tuple #[.int .i64 l[i],.bool true]):=by
 have a:=LenP_is w base p F l ds h;obtain⟨L,U,h⟩:=h;obtain⟨g,c,u,b,rfl,rfl,_⟩:=h.forms;obtain⟨d,e,f⟩:=h.cells;have j:=Qs h i hi;have k:((i:Nat):Int)<(l.length:Nat):=Z;generalize l[i]=z at *;go_enter func235,ntmps235;go_wp2_with (apply mq a);go_ret2;exact⟨rfl,rfl⟩
def KF (l:List Int) (ds:List Bool) (i:Nat) (z:Int):List Bool:=if l.getD i 0=z then ds else ds.set (i / 15) true
omit h in
theorem Yg {l:List Int} {i:Nat} (h:i<l.length):l.getD i 0=l[i]:=by rw[AB,AC h];rfl
theorem VAN (i:Nat) (hi:i<l.length) (z:Int):Calls prog 241 #[pq p,i,ii z] w fun e w'=>e=.returned (.bool true)/\PagedAt w' base p F (l.set i z) (KF l ds i z)/\Keep F w w':=by
 have t:=Jm w base p F l ds h i hi;obtain⟨L,U,h⟩:=h;obtain⟨g,c,u,v,rfl,rfl,A,H,I⟩:=h.forms;obtain⟨J,M,N⟩:=h.cells;have W:=Qs h i hi;have X:((i:Nat):Int)<(l.length:Nat):=Z;have f:=Yg hi;by_cases a:l[i]=z
 . have B:l.set i z=l:=by rw[<- a];exact Cz hi
   have d:KF l ds i z=ds:=by unfold KF;rw[f,AP a]
   rw[B,d];have O:(l[i] != z)=false:=by simp[a]
   clear a B d f;generalize l[i]=y at *;go_enter func241,ntmps241;go_wp2_with (apply mq t);go_ret;exact⟨rfl,⟨_,_,h⟩,kq⟩
 have d:KF l ds i z=ds.set (i / 15) true:=by unfold KF;rw[f,AL a]
 have O:(l[i] != z)=true:=uq a;have Y:=XI h.rl i;have k:=h.pages;have n:i / 15<ds.length:=by rw[k];unfold pgs;omega
 have P:IntKind.i64.wrap (((i:Nat):Int) / 15)=(i / 15:Nat):=by
  have:=h.few;rw[AK];omega
 obtain⟨q,C⟩:=ex (i / 15);rw[<- C] at d n P;have a0:((q:Nat):Int)<(ds.length:Nat):=Z;have a1:=XI h.rd q;have a2:cl w (aq u q) (.bool ds[q]):=QJ h.rd (by simp[n]);have o:Keep [g] w ((w.setCell (aq g i) (.int .i64 z)).drew):=kq.drew.setCell (.inl sq) _;have Q:=QB (XX h.rl i (.int .i64 z)) (Keep.refl [] _).drew;have r:=XB h.rd o (fun x b=>by simp[Value.ownBlock] at b;subst b;simp;exact fun e=>A e.symm);have j:=h.blk.keep o (uq H);have a3:((w.setCell (aq g i) (.int .i64 z)).drew).cell? (aq u q)=some (.bool ds[q]):=QJ r (by simp[n]);have a4:=XI r (q);have s:Keep [u] ((w.setCell (aq g i) (.int .i64 z)).drew) ((w.setCell (aq g i) (.int .i64 z)).drew.setCell (aq u q) (.bool true)):=kq.setCell (.inl sq) _;have D:=XX r (q) (.bool true);have E:=XB Q s (fun x b=>by simp[Value.ownBlock] at b;subst b;simpa using A);have R:=j.keep s (uq I);rw[show (ds.map Value.bool).set (q) (.bool true)=(ds.set (q) true).map .bool by simp[CV]] at D;rw[show (VM l).set i (.int .i64 z)=VM (l.set i z) by simp[VM,i64,CV]] at E
 have S:PagedIs ((w.setCell (aq g i) (.int .i64 z)).drew.setCell (aq u q) (.bool true)) base p (.slice (some g) l.length c) (.slice (some u) ds.length v) F (l.set i z) (ds.set (q) true):=
  ⟨R,by rw[Bj];exact E,by rw[Bj];exact D,h.foot,h.base,by rw[Bj];exact h.pos,by rw[Bj];exact h.few,by rw[Bj,Bj];exact k⟩
 rw[d];have T:=JB h.foot;clear a f k d C;generalize l[i]=y at *;generalize ds[q]=x at *;go_enter func241,ntmps241;go_wp2_with (apply mq t);refine ZT (fun w'=>cl w' p (.slice (some g) l.length c)/\cl w' (aq p 1) (ii 15)/\cl w' (aq p 2) (.slice (some u) ds.length v)) 18 [[0,1,2,3,4,5,6,7,8,9,10,11,12,13,14,15,16],[17]] ⟨J,M,N⟩ ?_;simp only[PI];iterate 17 refine wG ?_
 refine YB rq (fun K V=>?_);go_wp2_with fail;refine V _ _ (⟨uq (j.cell 0),uq (j.cell 1),uq (j.cell 2)⟩) ?_
 try simp only[Act.put,PU]
 refine KB ?_;go_wp2_with fail;go_ret;have G:=JA T;exact⟨rfl,⟨_,_,S⟩,(o.sub (m:=F) (by rw[G];simp[Value.ownBlock])).trans (s.sub (m:=F) (by rw[G];simp[Value.ownBlock])) (fun x b=>.inl b)⟩
end
theorem Xy {w W:World} {P:Nat} {u:Value} {a base':Nat} (d:1<=n) (f:n<=64) (b:pgs n=P) (g:W.ownsRow base' 3 1 u n (List.replicate n (.int .i64 z))) (h:w.heap.size<=base') (i:Blk W a 4 (madeCells (Value.bool false).cells (P*1))) (j:w.heap.size<=a) (c:kz w W) :
 PagedAt (W.alloc (.cells #[u,ii 15,.slice (some a) P P] 396)) w.heap.size W.heap.size (W.heap.size :: (u.ownBlock.toList++(Value.slice (some a) P P).ownBlock.toList)) (List.replicate n z) (List.replicate P false)/\kz w (W.alloc (.cells #[u,ii 15,.slice (some a) P P] 396)):=by
 have k:P<=64:=by rw[<- b];unfold pgs;omega
 refine⟨⟨_,_,Blk.new _ _ _,KD ?_ _,KD ?_ _,rfl,c.size,uq d,uq f,by simp[b]⟩,c.alloc _⟩
 . rw[Ai,show VM (List.replicate n z)=List.replicate n (.int .i64 z) by simp[VM,i64]]
   exact ZC g h
 rw[Ai];exact YP (e:=4) (s:=1) (z:=.bool false) i Z j Z sq rfl
theorem JBD (n:Nat) (z:Int) (s:1<=n) (B:n<=64) (w:World) :
 Calls prog 289 #[n,ii 15,ii z] w fun e w'=>∃ p F,e=.returned (pq p)/\PagedAt w' w.heap.size p F (List.replicate n z) (List.replicate (pgs n) false)/\kz w w':=by
 have O:(1:Int)<=(n:Nat):=Z;have Q:((n:Nat):Int)<=64:=Z;have R:IntKind.i64.wrap (((n:Nat):Int)+15)=(n:Nat)+15:=by rw[AK];omega
 have S:IntKind.i64.wrap (((n:Nat):Int)+15-1)=(n:Nat)+15-1:=by rw[AK];omega
 have T:IntKind.i64.wrap ((((n:Nat):Int)+15-1).tdiv 15)=(pgs n:Nat):=by unfold pgs;rw[C9 Z,AK];omega
 have U:pgs n<=5:=by unfold pgs;omega
 have V:1<=pgs n:=by unfold pgs;omega
 have g:=fun A c W (M:Rd W A 1 [.int .i64 z])=>Xt c z n s Z M;go_enter func289,ntmps289;go_wp2_with fail;generalize E:pgs n=P at *;have l:=JB E;clear E;refine ZR (fun w'=>kz w w') 12 (.held 0 (.held 2 (.held 4 (.held 5 (.held 6 (.held 7 (.held 8 (.held 9 (.held 10 (.two 1 (.two 3 (.loud 11 .nil) 11 (.loud 3 .nil)) 11 (.loud 1 (.loud 3 .nil)))))))))))) kq.drew ?_;simp only[RT.pick,PJ];iterate 9 refine wW ?_
 refine wpR_two ?_ ?_
 . refine wpR_loud rq fun K d=>?_
   go_wp2_with fail;have C:=(Blk.new w 3 #[ii z]).drew;have b:kz w (w.alloc (.cells #[ii z] 3)).drew:=(kq.alloc _).drew;have t:=Rd.of_blk C (n:=1) sq;generalize (w.alloc (.cells #[ii z] 3)).drew=w1 at *;refine d _ _ (b) ?_
   try simp only[Act.put,PU]
   refine wpR_two ?_ ?_
   . refine wpR_loud rq fun K d=>?_
     go_wp2_with (apply (g _ _ _ t).mono;rintro e v ⟨u,rfl,k,f⟩);refine d _ _ (b.tO f) ?_
     try simp only[Act.put,PU]
     refine wpR_loud rq fun K d=>?_;refine elemBool.wp1_make _ _ rfl .i64 .i64 P rfl rfl Z Z ?_;intro h y i m o a;refine d _ _ ((b.tO f).tO a) ?_
     try simp only[Act.put,PU]
     refine wpR_nil ?_;have j:=b.size;have N:=f.size;have G:=QB k a;have r:kz w h:=(b.tO f).tO a;have g:=Xy (w:=w) s B (JA l) G j o (by rw[i];omega) r;obtain⟨H,I,rfl,_⟩:=ZB G;clear i m j N b f a;go_wp2_with fail;go_ret;exact⟨_,_,rfl,by rw[JA l];exact g⟩
   refine wpR_loud rq fun K d=>?_;refine elemBool.wp1_make _ _ rfl .i64 .i64 P rfl rfl Z Z ?_;intro h y i m o a;have D:w.heap.size<=y:=by rw[i];exact b.size
   clear i m;refine d _ _ (b.tO a) ?_
   try simp only[Act.put,PU]
   refine wpR_loud rq fun K d=>?_;go_wp2_with (apply (g _ _ _ (t.keep a)).mono;rintro e v ⟨u,rfl,k,f⟩);refine d _ _ ((b.tO a).tO f) ?_
   try simp only[Act.put,PU]
   refine wpR_nil ?_;have j:=b.size;have J:=a.size;have r:kz w v:=(b.tO a).tO f;have g:=Xy (w:=w) s B (JA l) k (AA j J) (o.kO f) D r;obtain⟨H,I,rfl,_⟩:=ZB k;clear j J b f a;go_wp2_with fail;go_ret;exact⟨_,_,rfl,by rw[JA l];exact g⟩
 refine wpR_loud rq fun K d=>?_;refine elemBool.wp1_make _ _ rfl .i64 .i64 P rfl rfl Z Z ?_;intro h y i m o a;replace a:kz w h:=kq.drew.tO a;have D:w.heap.size<=y:=by rw[i];exact AG _
 clear i m;refine d _ _ (a) ?_
 try simp only[Act.put,PU]
 refine wpR_loud rq fun K d=>?_;go_wp2_with fail;have C:=Blk.new h 3 #[ii z];have b:kz h (h.alloc (.cells #[ii z] 3)):=kq.alloc _;have t:=Rd.of_blk C (n:=1) sq;generalize h.alloc (.cells #[ii z] 3)=w1 at *;refine d _ _ (a.tO b) ?_
 try simp only[Act.put,PU]
 refine wpR_loud rq fun K d=>?_;go_wp2_with (apply (g _ _ _ t).mono;rintro e v ⟨u,rfl,k,f⟩);refine d _ _ ((a.tO b).tO f) ?_
 try simp only[Act.put,PU]
 refine wpR_nil ?_;have j:=b.size;have L:=a.size;have r:kz w v:=(a.tO b).tO f;have g:=Xy (w:=w) s B (JA l) k (AA L j) ((o.kO b).kO f) D r;obtain⟨H,I,rfl,_⟩:=ZB k;clear j L b f a;go_wp2_with fail;go_ret;exact⟨_,_,rfl,by rw[JA l];exact g⟩
structure PImage where
 bl:List Int
 bd:List Bool
 ol:List Int
 od:List Bool
def PImage.Ok (I:PImage):Prop:=I.bl.length=I.ol.length/\(∀ x∈I.bl,0<=x/\x<4096)/\(∀ x∈I.ol,-1<=x/\x<4096)
structure ImageIs (w:World) (base m p1 p2:Nat) (F F1 F2:List Nat) (I:PImage):Prop where
 blk:Blk w m 298 #[pq p1,pq p2]
 b:PagedAt w base p1 F1 I.bl I.bd
 o:PagedAt w base p2 F2 I.ol I.od
 apart:Apart F1 F2
 m1:m∉F1
 m2:m∉F2
 foot:F=m :: (F1++F2)
 base:base<=m
 ok:I.Ok
def ImageAt (w:World) (base m:Nat) (F:List Nat) (I:PImage):Prop:=∃ p1 p2 F1 F2,ImageIs w base m p1 p2 F F1 F2 I
namespace PagedAt
variable {w w':World} {base p:Nat} {F k:List Nat} {l:List Int} {ds:List Bool}
theorem keep (h:PagedAt w base p F l ds) (a:Keep k w w') (b:Apart F k):PagedAt w' base p F l ds:=by obtain⟨L,U,h⟩:=h;exact⟨L,U,h.keep a b⟩
theorem kO (h:PagedAt w base p F l ds) (a:kz w w'):PagedAt w' base p F l ds:=h.keep a Apart.nil_right
theorem lt (h:PagedAt w base p F l ds):∀ x∈F,x<w.heap.size:=by obtain⟨L,U,h⟩:=h;exact h.lt
theorem ge (h:PagedAt w base p F l ds):∀ x∈F,base<=x:=by obtain⟨L,U,h⟩:=h;exact h.ge
theorem few (h:PagedAt w base p F l ds):1<=l.length/\l.length<=64:=by obtain⟨L,U,h⟩:=h;exact⟨h.pos,h.few⟩
end PagedAt
namespace ImageIs
variable {w w':World} {base m p1 p2:Nat} {F F1 F2 k:List Nat} {I:PImage}
theorem keep (h:ImageIs w base m p1 p2 F F1 F2 I) (b:Keep k w w') (c:Apart F k):ImageIs w' base m p1 p2 F F1 F2 I:=by
 have a:=h.foot;exact⟨h.blk.keep b (c m (by simp[a])),h.b.keep b (fun x d=>c x (by simp[a,d])),h.o.keep b (fun x d=>c x (by simp[a,d])),h.apart,h.m1,h.m2,a,h.base,h.ok⟩
theorem kO (h:ImageIs w base m p1 p2 F F1 F2 I) (a:kz w w'):ImageIs w' base m p1 p2 F F1 F2 I:=h.keep a Apart.nil_right
theorem lt (h:ImageIs w base m p1 p2 F F1 F2 I):∀ x∈F,x<w.heap.size:=by
 rw[h.foot];intro x a;simp only[AM,AD] at a;rcases a with rfl | a | a
 . exact h.blk.lt
 . exact h.b.lt x a
 exact h.o.lt x a
theorem ge (h:ImageIs w base m p1 p2 F F1 F2 I):∀ x∈F,base<=x:=by
 rw[h.foot];intro x a;simp only[AM,AD] at a;rcases a with rfl | a | a
 . exact h.base
 . exact h.b.ge x a
 exact h.o.ge x a
theorem cells (h:ImageIs w base m p1 p2 F F1 F2 I):cl w m (pq p1)/\cl w (aq m 1) (pq p2):=
 ⟨uq (h.blk.cell 0),uq (h.blk.cell 1)⟩
theorem setB (h:ImageIs w base m p1 p2 F F1 F2 I) {l:List Int} {ds:List Bool} (b:PagedAt w' base p1 F1 l ds) (a:Keep F1 w w') (c:l.length=I.bl.length) (d:∀ x∈l,0<=x/\x<4096):ImageIs w' base m p1 p2 F F1 F2 { I with bl:=l,bd:=ds }:=
 ⟨h.blk.keep a h.m1,b,h.o.keep a h.apart.symm,h.apart,h.m1,h.m2,h.foot,h.base,⟨c.trans h.ok.1,d,h.ok.2.2⟩⟩
theorem setO (h:ImageIs w base m p1 p2 F F1 F2 I) {l:List Int} {ds:List Bool} (b:PagedAt w' base p2 F2 l ds) (a:Keep F2 w w') (c:l.length=I.ol.length) (d:∀ x∈l,-1<=x/\x<4096):ImageIs w' base m p1 p2 F F1 F2 { I with ol:=l,od:=ds }:=
 ⟨h.blk.keep a h.m2,h.b.keep a h.apart,b,h.apart,h.m1,h.m2,h.foot,h.base,⟨h.ok.1.trans c.symm,h.ok.2.1,d⟩⟩
theorem subB (h:ImageIs w base m p1 p2 F F1 F2 I):∀ x∈F1,x∈F:=fun x a=>by rw[h.foot];simp[a]
theorem subO (h:ImageIs w base m p1 p2 F F1 F2 I):∀ x∈F2,x∈F:=fun x a=>by rw[h.foot];simp[a]
end ImageIs
namespace ImageAt
variable {w w':World} {base m:Nat} {F k:List Nat} {I:PImage}
theorem keep (h:ImageAt w base m F I) (a:Keep k w w') (b:Apart F k):ImageAt w' base m F I:=by obtain⟨p1,p2,F1,F2,h⟩:=h;exact⟨p1,p2,F1,F2,h.keep a b⟩
theorem kO (h:ImageAt w base m F I) (a:kz w w'):ImageAt w' base m F I:=h.keep a Apart.nil_right
theorem lt (h:ImageAt w base m F I):∀ x∈F,x<w.heap.size:=by obtain⟨p1,p2,F1,F2,h⟩:=h;exact h.lt
theorem ge (h:ImageAt w base m F I):∀ x∈F,base<=x:=by obtain⟨p1,p2,F1,F2,h⟩:=h;exact h.ge
theorem ok (h:ImageAt w base m F I):I.Ok:=by obtain⟨p1,p2,F1,F2,h⟩:=h;exact h.ok
theorem few (h:ImageAt w base m F I):1<=I.bl.length/\I.bl.length<=64:=by obtain⟨p1,p2,F1,F2,h⟩:=h;exact h.b.few
end ImageAt
section
variable (w:World) (base m p1 p2:Nat) (F F1 F2:List Nat) (I:PImage) (h:ImageIs w base m p1 p2 F F1 F2 I)
include h
theorem JN (a:Bool):cq 230 #[pq m,.bool a] w (pq (if a then p2 else p1)):=by
 obtain⟨b,c⟩:=h.cells;cases a
 all_goals
  go_enter func230,ntmps230
  go_wp2
  go_ret;exact⟨rfl,rfl⟩
theorem BlocksI_is:cq 242 #[pq m] w I.bl.length:=by
 have a:=JN w base m p1 p2 F F1 F2 I h false;have b:=LenP_is w base p1 F1 I.bl I.bd h.b;go_enter func242,ntmps242;go_wp2_with (first | (go_at_call 230;apply mq a) | (go_at_call 344;apply mq b));go_ret;exact⟨rfl,rfl⟩
theorem Qp (b n:Nat) (c:1<=n) (d:b+n<=I.bl.length):cq 328 #[pq m,b,n] w (.bool true):=by
 have a:=BlocksI_is w base m p1 p2 F F1 F2 I h;have e:=h.b.few.2;have f:(1:Int)<=(n:Nat):=Z;have g:((n:Nat):Int)<=(I.bl.length:Nat):=Z;have i:((b:Nat):Int)<=(I.bl.length:Nat)-(n:Nat):=Z;generalize I.bl.length=k at *;go_enter func328,ntmps328;go_wp2_with (apply mq a);go_ret;exact⟨rfl,rfl⟩
end
def QF (was z:Int):Int:=if was=z then 0 else max was 0
theorem Vr {w:World} {base p:Nat} {F:List Nat} {l:List Int} {ds:List Bool} (h:PagedAt w base p F l ds) (i:Nat) (hi:i<l.length) (z:Int) :
 Calls prog 240 #[pq p,i,ii z] w fun e w'=>e=.returned (.int .i64 (QF l[i] z))/\PagedAt w' base p F (l.set i z) (KF l ds i z)/\Keep F w w':=by
 have f:=Jm w base p F l ds h i hi;have g:=VAN w base p F l ds h i hi z;by_cases a:l[i]=z
 . have j:(l[i] == z)=true:=by simp[a]
   have b:QF l[i] z=0:=by unfold QF;rw[AP a]
   rw[b];clear a b;generalize l[i]=y at *;go_enter func240,ntmps240;go_wp2_with (first | (go_at_call 235;apply mq f) | (go_at_call 241;refine g.mono ?_;rintro e w1 ⟨rfl,c,d⟩));go_ret;exact⟨rfl,c,d⟩
 have j:(l[i] == z)=false:=uq a;have b:QF l[i] z=max l[i] 0:=by unfold QF;rw[AL a]
 rw[b];clear a b;generalize l[i]=y at *;go_enter func240,ntmps240;go_wp2_with (first | (go_at_call 235;apply mq f) | (go_at_call 241;refine g.mono ?_;rintro e w1 ⟨rfl,c,d⟩))
 all_goals
  go_ret;exact⟨VL Z,c,d⟩
theorem ZBg {w:World} {base m p1 p2:Nat} {F F1 F2:List Nat} {I:PImage} (h:ImageIs w base m p1 p2 F F1 F2 I) (b a:Nat) (c:b<I.ol.length) (d:1<=a/\a<4096) :
 Calls prog 243 #[pq m,.bool true,b,a] w fun e w'=>e=.returned (.tuple #[ii (QF I.ol[b] a),.bool true])/\PagedAt w' base p2 F2 (I.ol.set b a) (KF I.ol I.od b a)/\Keep F2 w w':=by
 have f:=Qp w base m p1 p2 F F1 F2 I h b 1 (AG _) (by rw[h.ok.1];exact c);have g:=JN w base m p1 p2 F F1 F2 I h true;have i:=Vr h.o b c a;obtain⟨l,n⟩:=d;have o:(1:Int)<=(a:Nat):=Z;have p:((a:Nat):Int)<4096:=Z;generalize QF I.ol[b] a=y at *;go_enter func243,ntmps243;go_wp2_with (first | (go_at_call 328;apply mq f) | (go_at_call 230;apply mq g) | (go_at_call 240;refine i.mono ?_;rintro e w1 ⟨rfl,j,k⟩));go_ret2;exact⟨rfl,j,k⟩
theorem ZAx {w:World} {base m:Nat} {F:List Nat} {I:PImage} (h:ImageAt w base m F I) (b a:Nat) (g:b<I.bl.length) (i:1<=a/\a<4096) :
 Calls prog 110 #[pq m,b,a] w fun e w'=>e=.returned (.tuple #[ii (QF (I.ol.getD b 0) a),.bool true])/\ImageAt w' base m F { I with ol:=I.ol.set b a,od:=KF I.ol I.od b a }/\Keep F w w':=by
 obtain⟨p1,p2,F1,F2,h⟩:=h;have d:b<I.ol.length:=by rw[<- h.ok.1];exact g
 have j:=ZBg h b a d i;rw[Yg d];generalize QF I.ol[b] a=y at *;go_enter func110,ntmps110;go_wp2_with (apply j.mono;rintro e w1 ⟨rfl,k,f⟩);go_ret2;refine⟨rfl,⟨p1,p2,F1,F2,h.setO k f sq ?_⟩,f.sub h.subO⟩;intro x c;rcases AW c with c | rfl
 . exact h.ok.2.2 x c
 omega
def XN (b:Nat) (s:List Int×List Int×List Bool) (i:Nat):List Int×List Int×List Bool:=
 (s.1++(if 0<QF (s.2.1.getD (b+i) 0) 0 then [QF (s.2.1.getD (b+i) 0) 0] else []),s.2.1.set (b+i) 0,KF s.2.1 s.2.2 (b+i) 0)
def XF (b n:Nat) (l:List Int) (ds:List Bool):List Int×List Int×List Bool:=(List.range n).foldl (XN b) ([],l,ds)
theorem KS (b n:Nat) (l:List Int) (ds:List Bool):XF b (n+1) l ds=XN b (XF b n l ds) n:=by simp[XF,CF]
theorem Zz (l:List Int) (ds:List Bool) (i:Nat) (z:Int):(KF l ds i z).length=ds.length:=by unfold KF;split <;> simp
theorem KH (b n:Nat) (l:List Int) (ds:List Bool):(XF b n l ds).2.1.length=l.length/\(XF b n l ds).2.2.length=ds.length:=by
 induction n with
 | zero=>exact⟨rfl,rfl⟩
 | succ n ih=>rw[KS];simp[XN,Zz,ih]
theorem Ya {x:Int} (h:-1<=x/\x<4096):0<=QF x z/\QF x z<4096:=by unfold QF;split <;> omega
theorem YBU {l:List Int} {i:Nat} (h:i<l.length):l.getD i 0∈l:=by rw[Yg h];exact AQ _
theorem KL (b n:Nat) (l:List Int) (ds:List Bool) (lo:Int) (f:-1<=lo/\lo<=0) (h:∀ x∈l,lo<=x/\x<4096) :
 (∀ x∈(XF b n l ds).2.1,lo<=x/\x<4096)/\(∀ x∈(XF b n l ds).1,0<x/\x<4096)/\(XF b n l ds).1.length<=n:=by
 induction n with
 | zero=>exact⟨h,by simp[XF],by simp[XF]⟩
 | succ n ih=>
   obtain⟨c,d,g⟩:=ih;rw[KS];simp only[XN]
   have i:QF ((XF b n l ds).2.1.getD (b+n) 0) 0<4096:=by
    by_cases e:b+n<(XF b n l ds).2.1.length
    . have:=c _ (YBU e)
      exact(Ya ⟨Z,this.2⟩).2
    have:(XF b n l ds).2.1.getD (b+n) 0=0:=by rw[AB,BF Z];rfl
    rw[this];decide
   refine⟨fun x a=>?_,fun x a=>?_,?_⟩
   . rcases AW a with a | rfl
     . exact c x a
     omega
   . rcases AD.1 a with a | a
     . exact d x a
     split at a
     . rw[Ak.1 a];omega
     cases a
   rw[AE];split <;> simp <;> omega
theorem XBU {w:World} {base m p1 p2:Nat} {F F1 F2:List Nat} {I:PImage} (h:ImageIs w base m p1 p2 F F1 F2 I) (b n:Nat) (R:1<=n) (S:b+n<=I.ol.length) :
 Calls prog 323 #[pq m,.bool true,b,n] w fun e w'=>∃ G,e=.returned (.tuple #[G,.bool true])/\w'.ownsRow w.heap.size 3 1 G (XF b n I.ol I.od).1.length (VM (XF b n I.ol I.od).1) /\
  PagedAt w' base p2 F2 (XF b n I.ol I.od).2.1 (XF b n I.ol I.od).2.2/\Keep F2 w w':=by
 have a0:=h.o.few.2;have T:=Qp w base m p1 p2 F F1 F2 I h b n R (by rw[h.ok.1];exact S);have a1:=(KH b 0 I.ol I.od).1;go_enter func323,ntmps323;go_wp2_with (go_at_call 328;apply mq T)
 go_loopw [8,10,11,18] (fun G _ _ i wr=>∃ (k:Nat) (s:List Int×List Int×List Bool),k<=n/\i=.int .i64 k/\Hid (s=XF b k I.ol I.od)/\wr.ownsRow w.heap.size 3 1 G s.1.length (VM s.1)/\PagedAt wr base p2 F2 s.2.1 s.2.2/\Keep F2 w wr)
  (fun _ _ _ i _=>n-(intOf i).toNat)
 case atStart=>exact⟨0,_,AS _,rfl,rfl,Ab _ _ _ _,h.o,kq⟩
 obtain⟨k,s,hk,rfl,d,c,r,j⟩:=hrel
 have a2:s.1.length<=64:=by
  have:=(KL b k I.ol I.od (-1) Z h.ok.2.2).2.2;rw[<- JA d] at this;omega
 have U:s.2.1.length=I.ol.length:=by rw[JA d];exact(KH b k I.ol I.od).1
 by_cases a3:k<n
 . have a4:((k:Nat):Int)<(n:Nat):=Z
   have B:b+k<s.2.1.length:=Z;have C:ImageIs wr base m p1 p2 F F1 F2 { I with ol:=s.2.1,od:=s.2.2 }:=h.setO r j U (by rw[JA d];exact(KL b k I.ol I.od (-1) Z h.ok.2.2).1);have D:=JN wr base m p1 p2 F F1 F2 _ C true;have o:=Vr r (b+k) B 0;have E:XF b (k+1) I.ol I.od=XN b s k:=by rw[KS,<- JA d]
   have H:=Yg B
   have V:=Ya (x:=s.2.1[b+k]) (z:=0) (by
    have:=(KL b k I.ol I.od (-1) Z h.ok.2.2).1 s.2.1[b+k] (by rw[<- JA d];exact AQ _);exact this)
   have J:=JB E;have K:=JB H;have a5:IntKind.i64.wrap ((b:Nat)+(k:Nat):Int)=(b:Nat)+(k:Nat):=by rw[AK];omega
   clear E H C;rw[show (((b+k:Nat):Nat):Int)=(b:Nat)+(k:Nat) from Z] at o;obtain⟨L,M,rfl,_⟩:=ZB c;obtain⟨y,t⟩:=ex (QF s.2.1[b+k] 0);rw[<- t] at o V;have N:=JB t;clear t;by_cases W:0<y
   . go_wp2_with (first
      | (go_at_call 230;apply mq D)
      | (go_at_call 240;refine o.mono ?_;rintro e w1 ⟨rfl,u,f⟩;(have p:=XB c f (fun g v l=>by have:=(own_mem c (g:=g) (uq v)).1;have:=h.o.lt g l;omega)))
      | (refine elemInts.wp_app rfl (.tmp 30) (.tmp 32) rfl w.heap.size _ s.1.length (VM s.1) rfl (KD p _) _ 1 1 [.int .i64 y] rfl (JT _ _ _) (by simp[Value.oneCell']) Z Z (by have:=j.size;have:=f.size;simp;omega) ?_;rintro a6 X O Y _ _;(obtain⟨a7,a8,rfl,_⟩:=ZB O);(have P:Keep (Value.slice L s.1.length M).ownBlock.toList w1 X:=(kq.alloc _).trans Y (fun x a=>.inl a))))
     go_roundw
     case rel=>
      have A:XN b s k=(s.1++[y],s.2.1.set (b+k) 0,KF s.2.1 s.2.2 (b+k) 0):=by unfold XN;rw[JA K,<- JA N,AP W]
      have Q:=fun x a=>(own_mem p (g:=x) a).1;refine⟨k+1,_,Z,by go_num,(by show _=_;rw[JA J,A]),by simpa [VM,i64] using O,u.keep P (fun x a l=>by have:=h.o.lt x a;have:=Q x l;omega),(j.trans f (fun x a=>.inl a)).trans P (fun x a=>.inr (Q x a))⟩
     case measure=>simp[intOf];omega
   go_wp2_with (first
    | (go_at_call 230;apply mq D)
    | (go_at_call 240;refine o.mono ?_;rintro e w1 ⟨rfl,u,f⟩;(have p:=XB c f (fun g v l=>by have:=(own_mem c (g:=g) (uq v)).1;have:=h.o.lt g l;omega))))
   go_roundw
   case rel=>
    have A:XN b s k=(s.1,s.2.1.set (b+k) 0,KF s.2.1 s.2.2 (b+k) 0):=by unfold XN;rw[JA K,<- JA N,AL Z,Ba]
    exact⟨k+1,(s.1,s.2.1.set (b+k) 0,KF s.2.1 s.2.2 (b+k) 0),Z,by go_num,(by show _=_;rw[JA J,A]),p,u,j.trans f (fun x a=>.inl a)⟩
   case measure=>simp[intOf];omega
 obtain rfl:k=n:=Z;obtain⟨L,M,rfl,_⟩:=ZB c;go_wp2_with fail;go_ret2;rw[<- JA d];exact⟨_,rfl,c,r,j⟩
theorem YBT {w:World} {base m:Nat} {F:List Nat} {I:PImage} (h:ImageAt w base m F I) (b n:Nat) (f:1<=n) (g:b+n<=I.bl.length) :
 Calls prog 208 #[pq m,b,n] w fun e w'=>∃ G,e=.returned (.tuple #[G,.bool true])/\w'.ownsRow w.heap.size 3 1 G (XF b n I.ol I.od).1.length (VM (XF b n I.ol I.od).1) /\
  ImageAt w' base m F { I with ol:=(XF b n I.ol I.od).2.1,od:=(XF b n I.ol I.od).2.2 }/\Keep F w w':=by
 obtain⟨p1,p2,F1,F2,h⟩:=h;have i:=XBU h b n f (by rw[<- h.ok.1];exact g);have a:=(KH b n I.ol I.od).1;have j:=(KL b n I.ol I.od (-1) Z h.ok.2.2).1;generalize XF b n I.ol I.od=s at *;have k:=JB a;clear a;go_enter func208,ntmps208;go_wp2_with (apply i.mono;rintro e w1 ⟨G,rfl,c,l,d⟩;obtain⟨o,p,rfl,_⟩:=ZB c);go_ret2;exact⟨_,rfl,c,⟨p1,p2,F1,F2,h.setO l d (JA k) j⟩,d.sub h.subO⟩
theorem JBk (w:World) (n:Nat) (f:1<=n) (g:n<=64) :
 Calls prog 183 #[n] w fun e w'=>∃ m F,e=.returned (pq m)/\ImageAt w' w.heap.size m F ⟨List.replicate n 0,List.replicate (pgs n) false,List.replicate n (-1),List.replicate (pgs n) false⟩/\kz w w':=by
 have h:=JBD n 0 f g w;have o:=fun W=>JBD n (-1) f g W;have r:(1:Int)<=(n:Nat):=Z;have s:((n:Nat):Int)<=64:=Z;go_enter func183,ntmps183;go_wp2_with (first | (refine h.mono ?_;clear h;rintro e w1 ⟨p1,F1,rfl,i,a⟩) | (refine(o _).mono ?_;rintro e p ⟨p2,F2,rfl,b,j⟩));go_ret;have k:kz w p:=a.tO j;have l:=i.kO j;refine⟨_,_,rfl,⟨p1,p2,F1,F2,Blk.new _ _ _,l.kO (kq.alloc _),?_,?_,fun c=>?_,fun c=>?_,rfl,k.size,?_⟩,k.alloc _⟩
 . obtain⟨L,U,q⟩:=b.kO (kq.alloc (.cells #[pq p1,pq p2] 298))
   exact⟨L,U,q.blk,ZC q.rl a.size,ZC q.rd a.size,q.foot,AA a.size q.base,q.pos,q.few,q.pages⟩
 . exact Apart.new (n:=w1.heap.size) i.lt b.ge
 . exact absurd (l.lt _ c) Z
 . exact absurd (b.lt _ c) Z
 refine⟨sq,fun x d=>?_,fun x d=>?_⟩
 . have:=AV d;omega
 have:=AV d;omega
structure PRD where
 n:Nat
 sv:List Value
 hs:List (Nat×Value)
 lv:List Value
 asked:Nat
def hdc (q:Nat×Value):List Value:=[.int .i64 q.1,q.2]
structure RDkIs (w:World) (base d:Nat) (S H U L:Value) (F:List Nat) (R:PRD):Prop where
 blk:Blk w d 264 #[S,H,U,ii (-1),.bool false,ii R.asked,L]
 safe:w.ownsRow base 66 1 S R.n R.sv
 held:w.ownsRow base 363 2 H R.hs.length (R.hs.flatMap hdc)
 flt:w.ownsRow base 4 1 U R.n (List.replicate R.n (.bool false))
 laid:w.ownsRow base 66 1 L R.lv.length R.lv
 ne:S.ownBlock≠L.ownBlock
 foot:F=d :: (S.ownBlock.toList++(H.ownBlock.toList++(U.ownBlock.toList++L.ownBlock.toList)))
 base:base<=d
 pos:0<R.n
 few:R.n<=4096
 ats:∀ p∈R.hs,p.1<R.n/\∃ A n c,p.2=.slice A n c
 hfew:R.hs.length<=R.asked/\R.lv.length<=100000
def RDkAt (w:World) (base d:Nat) (F:List Nat) (R:PRD):Prop:=∃ S H U L,RDkIs w base d S H U L F R
namespace RDkIs
variable {w w':World} {base d:Nat} {S H U L:Value} {F l:List Nat} {R:PRD}
theorem keep (h:RDkIs w base d S H U L F R) (c:Keep l w w') (e:Apart F l):RDkIs w' base d S H U L F R:=by
 have b:=h.foot
 refine⟨h.blk.keep c (e d (by simp[b])),XB h.safe c fun g a=>e g (by simp[b,a]),XB h.held c fun g a=>e g (by simp[b,a]),XB h.flt c fun g a=>e g (by simp[b,a]),
  XB h.laid c fun g a=>e g (by simp[b,a]),h.ne,b,h.base,h.pos,h.few,h.ats,h.hfew⟩
theorem kO (h:RDkIs w base d S H U L F R) (a:kz w w'):RDkIs w' base d S H U L F R:=h.keep a Apart.nil_right
theorem lt (h:RDkIs w base d S H U L F R):∀ x∈F,x<w.heap.size:=by
 rw[h.foot];intro x a;simp only[AM,AD] at a;rcases a with rfl | a | a | a | a
 . exact h.blk.lt
 . exact(own_mem h.safe a).2
 . exact(own_mem h.held a).2
 . exact(own_mem h.flt a).2
 exact(own_mem h.laid a).2
theorem ge (h:RDkIs w base d S H U L F R):∀ x∈F,base<=x:=by
 rw[h.foot];intro x a;simp only[AM,AD] at a;rcases a with rfl | a | a | a | a
 . exact h.base
 . exact(own_mem h.safe a).1
 . exact(own_mem h.held a).1
 . exact(own_mem h.flt a).1
 exact(own_mem h.laid a).1
theorem dS (h:RDkIs w base d S H U L F R):d∉S.ownBlock.toList:=fun a=>own_blk_ne h.safe h.blk (by decide) (uq a)
theorem dH (h:RDkIs w base d S H U L F R):d∉H.ownBlock.toList:=fun a=>own_blk_ne h.held h.blk (by decide) (uq a)
theorem dU (h:RDkIs w base d S H U L F R):d∉U.ownBlock.toList:=fun a=>own_blk_ne h.flt h.blk (by decide) (uq a)
theorem dL (h:RDkIs w base d S H U L F R):d∉L.ownBlock.toList:=fun a=>own_blk_ne h.laid h.blk (by decide) (uq a)
theorem setBlk (h:RDkIs w base d S H U L F R) (c:Keep [d] w w') (a:Nat) (e:R.asked<=a) (f:Blk w' d 264 #[S,H,U,ii (-1),.bool false,ii a,L]):RDkIs w' base d S H U L F { R with asked:=a }:=
 ⟨f,XB h.safe c (fun g b=>by simp;rintro rfl;exact h.dS (uq b)),XB h.held c (fun g b=>by simp;rintro rfl;exact h.dH (uq b)),
   XB h.flt c (fun g b=>by simp;rintro rfl;exact h.dU (uq b)),XB h.laid c (fun g b=>by simp;rintro rfl;exact h.dL (uq b)),h.ne,h.foot,h.base,h.pos,h.few,h.ats,⟨AA h.hfew.1 e,h.hfew.2⟩⟩
end RDkIs
namespace RDkAt
variable {w w':World} {base d:Nat} {F l:List Nat} {R:PRD}
theorem keep (h:RDkAt w base d F R) (a:Keep l w w') (b:Apart F l):RDkAt w' base d F R:=by
 obtain⟨S,H,U,L,h⟩:=h;exact⟨S,H,U,L,h.keep a b⟩
theorem kO (h:RDkAt w base d F R) (a:kz w w'):RDkAt w' base d F R:=h.keep a Apart.nil_right
theorem lt (h:RDkAt w base d F R):∀ x∈F,x<w.heap.size:=by obtain⟨S,H,U,L,h⟩:=h;exact h.lt
theorem ge (h:RDkAt w base d F R):∀ x∈F,base<=x:=by obtain⟨S,H,U,L,h⟩:=h;exact h.ge
end RDkAt
theorem VS {w:World} {t:TypeId} {a b c d e f i:Value} (h:Blk w g t #[a,b,c,d,e,f,i]) :
 cl w g a/\cl w (aq g 1) b/\cl w (aq g 2) c/\cl w (aq g 3) d/\cl w (aq g 4) e/\cl w (aq g 5) f/\cl w (aq g 6) i:=
 ⟨uq (h.cell 0),uq (h.cell 1),uq (h.cell 2),uq (h.cell 3),uq (h.cell 4),uq (h.cell 5),uq (h.cell 6)⟩
theorem elemHeld:ElemN prog 262 363 (.agg #[zz,zn]) 2 32:=ElemN.of underlying262 (by kernel_rfl) rfl Z
theorem KBg {w:World} {base d:Nat} {S H U L:Value} {F:List Nat} {R:PRD} (h:RDkIs w base d S H U L F R) (c:R.asked<=1000000000) :
 Calls prog 312 #[pq d] w fun e w'=>e=.returned (.bool true)/\RDkIs w' base d S H U L F { R with asked:=R.asked+1 }/\Keep [d] w w':=by
 obtain⟨f,g,i,j,k,l,m⟩:=VS h.blk;have n:=h.blk.frozen 5;have a:Keep [d] w (w.setCell (aq d 5) (.int .i64 (R.asked+1:Nat))):=(Keep.refl [d] w).sc d 5;have b:=h.setBlk a (R.asked+1) (Nat.le_succ _) (uq (h.blk.set 5 (.int .i64 (R.asked+1:Nat))));clear h;go_enter func312,ntmps312
 go_wp2
 go_ret;exact⟨rfl,uq b,uq a⟩
theorem RDkIs.setHeld {w f:World} {base d:Nat} {S H U L:Value} {F:List Nat} {R:PRD} (h:RDkIs w base d S H U L F R) (j:Keep H.ownBlock.toList w f) (b:Value) (q:Nat×Value)
 (y:f.ownsRow base 363 2 b (R.hs.length+1) (R.hs.flatMap hdc++hdc q)) (N:Nat) (I:w.heap.size<=N) (r:b.ownBlock=H.ownBlock\/b.ownBlock=some N) (z:q.1<R.n/\∃ A n c,q.2=.slice A n c) (B:R.hs.length+1<=R.asked) :
 ∃ F',RDkIs (f.setCell (aq d 1) b) base d S b U L F' { R with hs:=R.hs++[q] }/\Keep F w (f.setCell (aq d 1) b)/\Grow w F F':=by
 have k:=h.foot;have l:Keep [d] f (f.setCell (aq d 1) b):=kq.sc d 1;have t:d∉H.ownBlock.toList:=h.dH;have C:=(h.blk.keep j t).set 1 b
 have o:∀ {e:TypeId} {s n:Nat} {v:Value} {xs:List Value},w.ownsRow base e s v n xs->e≠363->d∉v.ownBlock.toList->(f.setCell (aq d 1) b).ownsRow base e s v n xs:=fun u D E=>
  XB (XB u j (fun x a g=>own_ne u h.held D a (uq g))) l (fun x a=>by simp;rintro rfl;exact E (uq a))
 have G:d∉b.ownBlock.toList:=fun g=>by
  rcases r with e | e
  . rw[e] at g;exact t g
  rw[e] at g;simp at g;have:=h.blk.lt;omega
 refine⟨_,⟨uq C,o h.safe (by decide) h.dS,?_,o h.flt (by decide) h.dU,o h.laid (by decide) h.dL,h.ne,rfl,h.base,h.pos,h.few,?_,⟨uq B,h.hfew.2⟩⟩,?_,?_⟩
 . have:=XB y l (fun x a=>by simp;rintro rfl;exact G (uq a))
   simpa using this
 . intro p i
   simp only[AD,Ak] at i;rcases i with i | rfl
   . exact h.ats p i
   exact z
 . exact(j.sub (fun x a=>by rw[k];simp at a;simp[a])).trans (l.sub (m:=F) (fun x a=>by rw[k];simp at a;simp[a])) (fun x a=>.inl a)
 intro x a;simp only[AM,AD] at a;rw[k];simp only[AM,AD];rcases a with a | a | a | a | a
 . simp[a]
 . simp[a]
 . rcases r with e | e
   . rw[e] at a;simp[a]
   rw[e] at a;simp at a;right;omega
 . simp[a]
 simp[a]
theorem KAP {w:World} {base d:Nat} {F:List Nat} {R:PRD} (h:RDkAt w base d F R) (I:R.asked<=1000000) (k:Nat) (J:k<R.n) {A:Option Addr} (c:Nat) (bs:List UInt8)
 (M:Rd w A 64 (bys bs)) (N:64<=c) (O:∀ a,A=some a->a.block∉F) (P:base<=w.heap.size) :
 Calls prog 296 #[pq d,k,.slice A 64 c] w fun e w'=>e=.returned zz/\∃ F' p,RDkAt w' base d F' p/\p.n=R.n/\p.asked=R.asked+1/\p.lv=R.lv/\Keep F w w'/\Grow w F F':=by
 obtain⟨S,H,U,L,h⟩:=h;obtain⟨g,nc,rfl,a6,a7⟩:=JE h.safe h.pos;have a8:=h.few;have a9:=h.pos;have v:=fun W=>QG (k:Nat) 0 ((R.n:Nat)-1) true (by simp;omega) W;have y:=KBg h Z;obtain⟨aa,ab,c2,ac,c4,c5,c6⟩:=VS h.blk;go_enter func296,ntmps296;go_wp2_with (first | (go_at_call 147;apply mq (v _);clear v) | (refine y.mono ?_;clear y;rintro e w1 ⟨rfl,b,s⟩));have z:Keep F w w1:=s.sub (fun x f=>by rw[h.foot];simp at f;simp[f]);have Q:=M.keepIf z O;have T:=(VS b.blk).2.1;have B:=QAJ c bs 0 64 Q.drew Z Z Z N Z;refine ZT (fun w'=>cl w' (aq d 1) H) 13 [[0,1,2,3,4,5,6,7,8],[9,10],[11],[12]] T ?_;simp only[PI];iterate 9 refine wG ?_
 refine YB rq (fun K i=>?_);go_wp2_with (refine B.mono ?_;clear B;rintro e j ⟨u,rfl,r,V⟩);have C:kz w1 j:=kq.drew.tO V;obtain⟨l,m,rfl,_⟩:=ZB r;refine i _ _ ((VS (b.kO C).blk).2.1) ?_;iterate 1 refine wG ?_
 refine YB rq (fun K i=>?_);go_wp2_with fail;have D:=Rd.of_blk (n:=2) (Blk.new j 363 #[ii k,.slice l 64 m]) sq;rw[AH sq] at D;have o:kz w1 (j.alloc (.cells #[ii k,.slice l 64 m] 363)):=C.alloc _;generalize ad:j.heap.size=n4 at *;generalize j.alloc (.cells #[ii k,.slice l 64 m] 363)=w3 at *;refine i _ _ ((VS (b.kO o).blk).2.1) ?_
 try simp only[Act.put,PU]
 refine YB rq (fun K i=>?_);have ae:R.hs.length<=1000000:=AA h.hfew.1 I;refine elemHeld.wp1_app (.tmp 28) (.tmp 35) rq base H R.hs.length (R.hs.flatMap hdc) rq (QB b.held o) ⟨n4,0,none⟩ 1 1 [.int .i64 k,.slice l 64 m] rq D (fun u r=>by simp at r;rcases r with rfl | rfl <;> rfl) Z Z (AA P (AA s.size o.size)) ?_;intro X Y E a0 a1 _;have G:Keep H.ownBlock.toList w1 Y:=o.zero.trans a0 (fun x f=>.inl f);have a2:d∉H.ownBlock.toList:=b.dH;have t:=b.blk.keep G a2;refine i _ _ ((VS t).2.1) ?_
 try simp only[Act.put,PU]
 refine KB ?_;have q1:=t.frozen 1;have j1:=(VS t).2.1;obtain⟨F',a3,a4,a5⟩:=b.setHeld G X (k,.slice l 64 m) E w3.heap.size o.size a1 ⟨J,_,_,_,rfl⟩ (by have:=h.hfew.1;simp only;omega);obtain⟨A',af,rfl,_⟩:=ZB E;go_wp2_with fail;go_ret;exact⟨rfl,F',_,⟨_,_,_,_,a3⟩,rfl,rfl,rfl,z.trans a4 (fun x f=>.inl f),a5.keep s⟩
def RDkNew (w:World) (base d:Nat) (F:List Nat) (n:Nat):Prop:=
 ∃ S U R,RDkIs w base d S (.slice none 0 0) U (.slice none 0 0) F R/\R.n=n/\R.hs=[]/\R.lv=[]/\R.asked=0/\∀ v∈R.sv,w.ownsRow base 5 1 v 64 (bys (List.replicate 64 0))
theorem RDkNew.kO {w w':World} {base d:Nat} {F:List Nat} (h:RDkNew w base d F n) (a:kz w w'):RDkNew w' base d F n:=by
 obtain⟨S,U,R,b,c,e,f,g,i⟩:=h;exact⟨S,U,R,b.kO a,c,e,f,g,fun v j=>QB (i v j) a⟩
theorem RDkNew.at_ {w:World} {base d:Nat} {F:List Nat} (h:RDkNew w base d F n):∃ R,RDkAt w base d F R/\R.n=n/\R.lv=[]/\R.asked=0:=by
 obtain⟨S,U,R,a,b,f,c,e,g⟩:=h;exact⟨R,⟨_,_,_,_,a⟩,b,c,e⟩
theorem elem8N:ElemN prog 66 5 (.int .u8 0) 1 1:=ElemN.of underlying66 (by kernel_rfl) rfl Z
theorem QAC (a b:Value) (W:World):(Instr.index 380 (.agg #[a,b]) (.int .i64 0)).run prog W=.ok a W:=by
 simp[Instr.index,CC underlying380,asIntOf,go_sem]
theorem XAZ (a b:Value) (W:World):(Instr.index 380 (.agg #[a,b]) (.int .i64 1)).run prog W=.ok b W:=by
 simp[Instr.index,CC underlying380,asIntOf,go_sem]
def QV (I:PImage) (b old a:Nat):PImage:=
 if I.bl.getD b 0=(old:Nat) then { I with bl:=I.bl.set b a,bd:=KF I.bl I.bd b a } else { I with ol:=I.ol.set b a,od:=KF I.ol I.od b a }
theorem YBX {w:World} {base m:Nat} {F:List Nat} {I:PImage} (h:ImageAt w base m F I) (b f a:Nat) (l:b<I.bl.length) (Q:1<=f) (R:1<=a/\a<4096) (o:I.bl.getD b 0=(f:Nat)\/I.ol.getD b 0=(f:Nat)) :
 Calls prog 216 #[pq m,b,f,a] w fun e w'=>e=.returned (.bool true)/\ImageAt w' base m F (QV I b f a)/\Keep F w w':=by
 obtain⟨p1,p2,F1,F2,h⟩:=h;have p:b<I.ol.length:=by rw[<- h.ok.1];exact l
 have B:=Qp w base m p1 p2 F F1 F2 I h b 1 (AG _) Z;obtain⟨C,D⟩:=R;have Y:¬ ((f:Nat):Int)<1:=Z;have q1:¬ ((a:Nat):Int)<1:=Z;have q2:¬ ((4096:Int)<=(a:Nat)):=Z;have n:=fun W (d:kz w W)=>Jm W base p1 F1 I.bl I.bd (h.b.kO d) b l;have r:=fun W (d:kz w W)=>Jm W base p2 F2 I.ol I.od (h.o.kO d) b p;have s:=fun W (d:kz w W)=>VAN W base p1 F1 I.bl I.bd (h.b.kO d) b l a;have t:=fun W (d:kz w W)=>VAN W base p2 F2 I.ol I.od (h.o.kO d) b p a;have g:kz w w.drew:=kq.drew;have u:I.bl.getD b 0=I.bl[b]:=Yg l;have E:I.ol.getD b 0=I.ol[b]:=Yg p;rw[u,E] at o;have G:QV I b f a=if I.bl[b]=(f:Nat) then { I with bl:=I.bl.set b a,bd:=KF I.bl I.bd b a } else { I with ol:=I.ol.set b a,od:=KF I.ol I.od b a }:=by unfold QV;rw[u]
 rw[G];have H:Hid (1<=a/\a<4096):=⟨C,D⟩;clear u E G C D Q;obtain⟨J,K⟩:=h.cells;generalize I.bl[b]=x at *;generalize I.ol[b]=y at *
 have L:∀ W:World,PagedAt W base p1 F1 (I.bl.set b a) (KF I.bl I.bd b a)->Keep F1 w W->ImageAt W base m F { I with bl:=I.bl.set b a,bd:=KF I.bl I.bd b a }/\Keep F w W:=fun W v d=>
  ⟨⟨p1,p2,F1,F2,h.setB v d sq (fun x c=>by
    have:=JA H;rcases AW c with c | rfl
    . exact h.ok.2.1 x c
    omega)⟩,d.sub h.subB⟩
 have M:∀ W:World,PagedAt W base p2 F2 (I.ol.set b a) (KF I.ol I.od b a)->Keep F2 w W->ImageAt W base m F { I with ol:=I.ol.set b a,od:=KF I.ol I.od b a }/\Keep F w W:=fun W v d=>
  ⟨⟨p1,p2,F1,F2,h.setO v d sq (fun x c=>by
    have:=JA H;rcases AW c with c | rfl
    . exact h.ok.2.2 x c
    omega)⟩,d.sub h.subO⟩
 have S:=JB L;have T:=JB M;clear L M;by_cases c:x=(f:Nat)
 . rw[AP c]
   have a0:(x == ((f:Nat):Int))=true:=by simp[c]
   go_enter func216,ntmps216;go_wp2_with (go_at_call 328;apply mq B);refine ZT (fun W=>cl W m (pq p1)/\cl W (aq m 1) (pq p2)) 10 [[0,1,2,3,4,5,6,7,8,9]] ⟨J,K⟩ ?_;simp only[PI];iterate 10 refine wG ?_
   refine KB ?_
   go_wp2
   go_loopw [38] (fun i wr=>(i=.int .i64 0/\wr=w.drew)) (fun i _=>2-(intOf i).toNat)
   case atStart=>exact⟨rfl,rfl⟩
   obtain⟨rfl,rfl⟩:=hrel;have z:=n _ g;have N:=s _ g;clear n r s t;have O:=fun W=>QAC (.pointer (some p1)) (.pointer (some p2)) W
   go_wp2_with (first
    | (go_at_call 235;apply mq z)
    | (go_at_call 241;refine N.mono ?_;clear N;rintro e U ⟨rfl,A,j⟩))
   go_ret;exact⟨rfl,(JA S) _ A (g.zero.trans j (fun x c=>.inl c))⟩
 rw[AL c];have V:y=(f:Nat):=o.resolve_left c;clear o;subst V;go_enter func216,ntmps216;go_wp2_with (go_at_call 328;apply mq B);refine ZT (fun W=>cl W m (pq p1)/\cl W (aq m 1) (pq p2)) 10 [[0,1,2,3,4,5,6,7,8,9]] ⟨J,K⟩ ?_;simp only[PI];iterate 10 refine wG ?_
 refine KB ?_
 go_wp2
 go_loopw [38] (fun i wr=>∃ k:Nat,k<=1/\i=.int .i64 (k:Nat)/\wr=w.drew) (fun i _=>2-(intOf i).toNat)
 case atStart=>exact⟨0,Z,rfl,rfl⟩
 obtain⟨k,d,rfl,rfl⟩:=hrel;have z:=n _ g;have X:=r _ g;have P:=t _ g;clear n r s t;have j:k=0\/k=1:=Z;rcases j with rfl | rfl
 . have O:=fun W=>QAC (.pointer (some p1)) (.pointer (some p2)) W
   go_wp2_with (go_at_call 235;apply mq z);go_roundw;case rel=>exact⟨1,Z,by go_num,by first | trivial | rfl⟩
   case measure=>simp[intOf]
 have O:=fun W=>XAZ (.pointer (some p1)) (.pointer (some p2)) W
 go_wp2_with (first
  | (go_at_call 235;apply mq X)
  | (go_at_call 241;refine P.mono ?_;clear P;rintro e U ⟨rfl,A,j⟩))
 go_ret;exact⟨rfl,(JA T) _ A (g.zero.trans j (fun x c=>.inl c))⟩