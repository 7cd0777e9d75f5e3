/- Lemmas of the proof, with their conditions. -/
import Derived.Test.YtfedaknhecbehaaGreatM13
import Derived.Test.YtfedaknhecbehaaGreatM22
import Derived.Test.YtfedaknhecbehaaGreatM05
namespace Go.Proofs.YtfedaknhecbehaaGreat
open Tryz Go.RowKit Go.Shelf
variable {g n:Nat} {z:Int} {w2:World}
set_option linter.all false
set_option maxHeartbeats 4000000
set_option maxRecDepth 20000
structure PagedIs (w:World) (base p:Nat) (L U:Value) (F:List Nat) (l:List Int) (ds:List Bool):Prop where
 blk:Blk w p 396 #[L,ii 15,U]
 rl:w.ownsRow base 3 1 L l.length (KW l)
 rd:w.ownsRow base 4 1 U ds.length (ds.map .bool)
 foot:F=p :: (L.ownBlock.toList++U.ownBlock.toList)
 base:base<=p
 pos:1<=l.length
 few:l.length<=64
 pages:ds.length=pgs l.length
def PagedAt (w:World) (base p:Nat) (F:List Nat) (l:List Int) (ds:List Bool):Prop:=∃ L U,PagedIs w base p L U F l ds
namespace PagedIs
variable {w w':World} {base p:Nat} {L U:Value} {F k:List Nat} {l:List Int} {ds:List Bool}
theorem keep (h:PagedIs w base p L U F l ds) (b:Keep k w w') (c:Apart F k):PagedIs w' base p L U F l ds:=by
 have a:=h.foot;exact⟨h.blk.keep b (c p (by simp[a])),KA h.rl b fun g d=>c g (by simp[a,d]),KA h.rd b fun g d=>c g (by simp[a,d]),a,h.base,h.pos,h.few,h.pages⟩
theorem kO (h:PagedIs w base p L U F l ds) (a:kz w w'):PagedIs w' base p L U F l ds:=h.keep a Apart.nil_right
theorem lt (h:PagedIs w base p L U F l ds):∀ x∈F,x<w.heap.size:=by
 rw[h.foot];intro x a;simp only[AL,AD] at a;rcases a with rfl | a | a
 . exact h.blk.lt
 . exact(own_mem h.rl a).2
 exact(own_mem h.rd a).2
theorem ge (h:PagedIs w base p L U F l ds):∀ x∈F,base<=x:=by
 rw[h.foot];intro x a;simp only[AL,AD] at a;rcases a with rfl | a | a
 . exact h.base
 . exact(own_mem h.rl a).1
 exact(own_mem h.rd a).1
theorem forms (h:PagedIs w base p L U F l ds):∃ g c u a,L=.slice (some (aq g 0)) l.length c/\U=.slice (some (aq u 0)) ds.length a/\g≠u/\p≠g/\p≠u:=by
 have b:=(ZD h.pos h.few).1;have d:=h.pages;obtain⟨g,c,rfl,_⟩:=YD h.rl h.pos;obtain⟨u,a,rfl,_⟩:=YD h.rd Z;exact⟨g,c,u,a,rfl,rfl,fun e=>own_ne h.rl h.rd (by decide) rfl (by simp[Value.ownBlock,e]),fun e=>own_blk_ne h.rl h.blk (by decide) (by simp[Value.ownBlock,e]),fun e=>own_blk_ne h.rd h.blk (by decide) (by simp[Value.ownBlock,e])⟩
theorem cells (h:PagedIs w base p L U F l ds):cl w p L/\cl w (aq p 1) (ii 15)/\cl w (aq p 2) U:=
 ⟨uq (h.blk.cell 0),uq (h.blk.cell 1),uq (h.blk.cell 2)⟩
end PagedIs
theorem Zo {w:World} {base p c:Nat} {U:Value} {F:List Nat} {l:List Int} {ds:List Bool} (h:PagedIs w base p (.slice (some g) l.length c) U F l ds) (i:Nat) (hi:i<l.length):cl w (aq g i) (.int .i64 l[i]):=
 YI h.rl (by simp[KW,i64,hi])
section
variable (w:World) (base p:Nat) (F:List Nat) (l:List Int) (ds:List Bool) (h:PagedAt w base p F l ds)
include h
theorem LenP_is:cq 344 #[pq p] w l.length:=by
 obtain⟨L,U,h⟩:=h;obtain⟨g,c,u,a,rfl,rfl,_⟩:=h.forms;obtain⟨b,d,e⟩:=h.cells;go_enter func344,ntmps344
 go_wp2
 go_ret;exact⟨rfl,rfl⟩
theorem Jk (i:Nat) (hi:i<l.length):cq 235 #[pq p,i] w (.tuple #[.int .i64 l[i],.bool true]):=by
 have a:=LenP_is w base p F l ds h;obtain⟨L,U,h⟩:=h;obtain⟨g,c,u,b,rfl,rfl,_⟩:=h.forms;obtain⟨d,f,j⟩:=h.cells;have k:=Zo h i hi;have m:((i:Nat):Int)<(l.length:Nat):=Z
 generalize l[i]=z at *;go_enter func235,ntmps235;go_wp2_with (refine a.mono ?_;clear a;rintro e w' ⟨rfl,rfl⟩);go_ret2;exact⟨rfl,rfl⟩
def QH (l:List Int) (ds:List Bool) (i:Nat) (z:Int):List Bool:=if l.getD i 0=z then ds else ds.set (i / 15) true
omit h in
theorem Ze {l:List Int} {i:Nat} (h:i<l.length):l.getD i 0=l[i]:=by rw[AA,AC h];rfl
theorem JAG (i:Nat) (hi:i<l.length) (z:Int):Calls prog 241 #[pq p,i,ii z] w fun e w'=>e=.returned (.bool true)/\PagedAt w' base p F (l.set i z) (QH l ds i z)/\Keep F w w':=by
 have f:=Jk w base p F l ds h i hi;obtain⟨L,U,h⟩:=h;obtain⟨g,c,u,v,rfl,rfl,A,H,I⟩:=h.forms;obtain⟨J,M,N⟩:=h.cells;have W:=Zo h i hi;have X:((i:Nat):Int)<(l.length:Nat):=Z
 have j:=Ze hi;by_cases a:l[i]=z
 . have B:l.set i z=l:=by rw[<- a];exact C2 hi
   have d:QH l ds i z=ds:=by unfold QH;rw[j,AJ a]
   rw[B,d];have O:(l[i] != z)=false:=by simp[a]
   clear a B d j;generalize l[i]=y at *;go_enter func241,ntmps241;go_wp2_with (refine f.mono ?_;clear f;rintro e w' ⟨rfl,rfl⟩);go_ret;exact⟨rfl,⟨_,_,h⟩,kq⟩
 have d:QH l ds i z=ds.set (i / 15) true:=by unfold QH;rw[j,AF a]
 have O:(l[i] != z)=true:=uq a
 have Y:=XJ h.rl i;have n:=h.pages;have o:i / 15<ds.length:=by rw[n];unfold pgs;omega
 have P:IntKind.i64.wrap (((i:Nat):Int) / 15)=(i / 15:Nat):=by
  have:=h.few;rw[AI];omega
 obtain⟨q,C⟩:=ex (i / 15);rw[<- C] at d o P;have a0:((q:Nat):Int)<(ds.length:Nat):=Z
 have a1:=XJ h.rd q;have a2:cl w (aq u q) (.bool ds[q]):=YI h.rd (by simp[o]);have r:Keep [g] w ((w.setCell (aq g i) (.int .i64 z)).drew):=kq.drew.setCell (.inl sq) _;have Q:=QB (QW h.rl i (.int .i64 z)) (Keep.refl [] _).drew;have s:=KA h.rd r (fun x b=>by simp[Value.ownBlock] at b;subst b;simp;exact fun e=>A e.symm);have k:=h.blk.keep r (uq H);have a3:((w.setCell (aq g i) (.int .i64 z)).drew).cell? (aq u q)=some (.bool ds[q]):=YI s (by simp[o]);have a4:=XJ s (q);have t:Keep [u] ((w.setCell (aq g i) (.int .i64 z)).drew) ((w.setCell (aq g i) (.int .i64 z)).drew.setCell (aq u q) (.bool true)):=kq.setCell (.inl sq) _;have D:=QW s (q) (.bool true);have E:=KA Q t (fun x b=>by simp[Value.ownBlock] at b;subst b;simpa using A);have R:=k.keep t (uq I);rw[show (ds.map Value.bool).set (q) (.bool true)=(ds.set (q) true).map .bool by simp[Ci]] at D;rw[show (KW l).set i (.int .i64 z)=KW (l.set i z) by simp[KW,i64,Ci]] at E
 have S:PagedIs ((w.setCell (aq g i) (.int .i64 z)).drew.setCell (aq u q) (.bool true)) base p (.slice (some g) l.length c) (.slice (some u) ds.length v) F (l.set i z) (ds.set (q) true):=
  ⟨R,by rw[Bl];exact E,by rw[Bl];exact D,h.foot,h.base,by rw[Bl];exact h.pos,by rw[Bl];exact h.few,by rw[Bl,Bl];exact n⟩
 rw[d];have T:=ZB h.foot;clear a j n d C;generalize l[i]=y at *;generalize ds[q]=x at *;go_enter func241,ntmps241;go_wp2_with (refine f.mono ?_;clear f;rintro e w' ⟨rfl,rfl⟩);refine ZT (fun w'=>cl w' p (.slice (some g) l.length c)/\cl w' (aq p 1) (ii 15)/\cl w' (aq p 2) (.slice (some u) ds.length v)) 18 [[0,1,2,3,4,5,6,7,8,9,10,11,12,13,14,15,16],[17]] ⟨J,M,N⟩ ?_;simp only[PI];iterate 17 refine wG ?_
 refine JB rq fun K V=>?_;go_wp2_with fail;refine V _ _ (⟨uq (k.cell 0),uq (k.cell 1),uq (k.cell 2)⟩) ?_
 try simp only[Act.put,PU]
 refine VB ?_;go_wp2_with fail;go_ret;have G:=ZA T;exact⟨rfl,⟨_,_,S⟩,(r.sub (m:=F) (by rw[G];simp[Value.ownBlock])).trans (t.sub (m:=F) (by rw[G];simp[Value.ownBlock])) (fun x b=>.inl b)⟩
end
theorem Vz {w W:World} {P:Nat} {u:Value} {a base':Nat} (d:1<=n) (f:n<=64) (b:pgs n=P) (g:W.ownsRow base' 3 1 u n (List.replicate n (.int .i64 z))) (h:w.heap.size<=base') (i:Blk W a 4 (madeCells (Value.bool false).cells (P*1))) (j:w.heap.size<=a) (c:kz w W) :
 PagedAt (W.alloc (.cells #[u,ii 15,.slice (some a) P P] 396)) w.heap.size W.heap.size (W.heap.size :: (u.ownBlock.toList++(Value.slice (some a) P P).ownBlock.toList)) (List.replicate n z) (List.replicate P false)/\kz w (W.alloc (.cells #[u,ii 15,.slice (some a) P P] 396)):=by
 have k:P<=64:=by rw[<- b];unfold pgs;omega
 refine⟨⟨_,_,Blk.new _ _ _,XE ?_ _,XE ?_ _,rfl,c.size,uq d,uq f,by simp[b]⟩,c.alloc _⟩
 . rw[BD,show KW (List.replicate n z)=List.replicate n (.int .i64 z) by simp[KW,i64]]
   exact VC g h
 rw[BD]
 exact JN (e:=4) (s:=1) (z:=.bool false) i Z j Z sq rfl
theorem YAu (n:Nat) (z:Int) (r:1<=n) (v:n<=64) (w:World) :
 Calls prog 289 #[n,ii 15,ii z] w fun e w'=>∃ p F,e=.returned (pq p)/\PagedAt w' w.heap.size p F (List.replicate n z) (List.replicate (pgs n) false)/\kz w w':=by
 have M:(1:Int)<=(n:Nat):=Z
 have N:((n:Nat):Int)<=64:=Z
 have O:IntKind.i64.wrap (((n:Nat):Int)+15)=(n:Nat)+15:=by rw[AI];omega
 have Q:IntKind.i64.wrap (((n:Nat):Int)+15-1)=(n:Nat)+15-1:=by rw[AI];omega
 have R:IntKind.i64.wrap ((((n:Nat):Int)+15-1).tdiv 15)=(pgs n:Nat):=by unfold pgs;rw[CT Z,AI];omega
 have S:pgs n<=5:=by unfold pgs;omega
 have T:1<=pgs n:=by unfold pgs;omega
 have g:=fun A c W (J:Rd W A 1 [.int .i64 z])=>Zp c z n r Z J;go_enter func289,ntmps289;go_wp2_with fail;generalize C:pgs n=P at *;have l:=ZB C;clear C;refine ZR (fun w'=>kz w w') 12 (.held 0 (.held 2 (.held 4 (.held 5 (.held 6 (.held 7 (.held 8 (.held 9 (.held 10 (.two 1 (.two 3 (.loud 11 .nil) 11 (.loud 3 .nil)) 11 (.loud 1 (.loud 3 .nil)))))))))))) kq.drew ?_;simp only[RT.pick,PJ];iterate 9 refine wW ?_
 refine wpR_two ?_ ?_
 . refine wpR_loud rq fun K d=>?_
   go_wp2_with fail;have y:=(Blk.new w 3 #[ii z]).drew;have b:kz w (w.alloc (.cells #[ii z] 3)).drew:=(kq.alloc _).drew;have s:=Rd.of_blk y (n:=1) sq;generalize (w.alloc (.cells #[ii z] 3)).drew=w1 at *;refine d _ _ (b) ?_
   try simp only[Act.put,PU]
   refine wpR_two ?_ ?_
   . refine wpR_loud rq fun K d=>?_
     go_wp2_with (refine(g _ _ _ s).mono ?_;rintro e w2 ⟨u,rfl,k,f⟩);refine d _ _ (b.tO f) ?_
     try simp only[Act.put,PU]
     refine wpR_loud rq fun K d=>?_;refine elemBool.wp1_make _ _ rfl .i64 .i64 P rfl rfl Z Z ?_;intro h t i m o a;refine d _ _ ((b.tO f).tO a) ?_
     try simp only[Act.put,PU]
     refine wpR_nil ?_;have j:=b.size;have L:=f.size;have D:=QB k a;have q:kz w h:=(b.tO f).tO a;have g:=Vz (w:=w) r v (ZA l) D j o (by rw[i];omega) q;obtain⟨E,G,rfl,_⟩:=XB D;clear i m j L b f a;go_wp2_with fail;go_ret;exact⟨_,_,rfl,by rw[ZA l];exact g⟩
   refine wpR_loud rq fun K d=>?_
   refine elemBool.wp1_make _ _ rfl .i64 .i64 P rfl rfl Z Z ?_;intro h t i m o a;have B:w.heap.size<=t:=by rw[i];exact b.size
   clear i m;refine d _ _ (b.tO a) ?_
   try simp only[Act.put,PU]
   refine wpR_loud rq fun K d=>?_;go_wp2_with (refine(g _ _ _ (s.keep a)).mono ?_;rintro e w2 ⟨u,rfl,k,f⟩);refine d _ _ ((b.tO a).tO f) ?_
   try simp only[Act.put,PU]
   refine wpR_nil ?_;have j:=b.size;have H:=a.size;have q:kz w w2:=(b.tO a).tO f;have g:=Vz (w:=w) r v (ZA l) k (AB j H) (o.kO f) B q;obtain⟨E,G,rfl,_⟩:=XB k;clear j H b f a;go_wp2_with fail;go_ret;exact⟨_,_,rfl,by rw[ZA l];exact g⟩
 refine wpR_loud rq fun K d=>?_
 refine elemBool.wp1_make _ _ rfl .i64 .i64 P rfl rfl Z Z ?_;intro h t i m o a;replace a:kz w h:=kq.drew.tO a;have B:w.heap.size<=t:=by rw[i];exact AG _
 clear i m;refine d _ _ (a) ?_
 try simp only[Act.put,PU]
 refine wpR_loud rq fun K d=>?_;go_wp2_with fail;have y:=Blk.new h 3 #[ii z];have b:kz h (h.alloc (.cells #[ii z] 3)):=kq.alloc _;have s:=Rd.of_blk y (n:=1) sq;generalize h.alloc (.cells #[ii z] 3)=w1 at *;refine d _ _ (a.tO b) ?_
 try simp only[Act.put,PU]
 refine wpR_loud rq fun K d=>?_;go_wp2_with (refine(g _ _ _ s).mono ?_;rintro e w2 ⟨u,rfl,k,f⟩);refine d _ _ ((a.tO b).tO f) ?_
 try simp only[Act.put,PU]
 refine wpR_nil ?_;have j:=b.size;have I:=a.size;have q:kz w w2:=(a.tO b).tO f;have g:=Vz (w:=w) r v (ZA l) k (AB I j) ((o.kO b).kO f) B q;obtain⟨E,G,rfl,_⟩:=XB k;clear j I b f a;go_wp2_with fail;go_ret;exact⟨_,_,rfl,by rw[ZA l];exact g⟩
structure PImage where
 bl:List Int
 bd:List Bool
 ol:List Int
 od:List Bool
def PImage.Ok (I:PImage):Prop:=I.bl.length=I.ol.length/\(∀ x∈I.bl,0<=x/\x<4096)/\(∀ x∈I.ol,-1<=x/\x<4096)
structure ImageIs (w:World) (base m p1 p2:Nat) (F F1 F2:List Nat) (I:PImage):Prop where
 blk:Blk w m 298 #[pq p1,pq p2]
 b:PagedAt w base p1 F1 I.bl I.bd
 o:PagedAt w base p2 F2 I.ol I.od
 apart:Apart F1 F2
 m1:m∉F1
 m2:m∉F2
 foot:F=m :: (F1++F2)
 base:base<=m
 ok:I.Ok
def ImageAt (w:World) (base m:Nat) (F:List Nat) (I:PImage):Prop:=∃ p1 p2 F1 F2,ImageIs w base m p1 p2 F F1 F2 I
namespace PagedAt
variable {w w':World} {base p:Nat} {F k:List Nat} {l:List Int} {ds:List Bool}
theorem keep (h:PagedAt w base p F l ds) (a:Keep k w w') (b:Apart F k):PagedAt w' base p F l ds:=by obtain⟨L,U,h⟩:=h;exact⟨L,U,h.keep a b⟩
theorem kO (h:PagedAt w base p F l ds) (a:kz w w'):PagedAt w' base p F l ds:=h.keep a Apart.nil_right
theorem lt (h:PagedAt w base p F l ds):∀ x∈F,x<w.heap.size:=by obtain⟨L,U,h⟩:=h;exact h.lt
theorem ge (h:PagedAt w base p F l ds):∀ x∈F,base<=x:=by obtain⟨L,U,h⟩:=h;exact h.ge
theorem few (h:PagedAt w base p F l ds):1<=l.length/\l.length<=64:=by obtain⟨L,U,h⟩:=h;exact⟨h.pos,h.few⟩
end PagedAt
namespace ImageIs
variable {w w':World} {base m p1 p2:Nat} {F F1 F2 k:List Nat} {I:PImage}
theorem keep (h:ImageIs w base m p1 p2 F F1 F2 I) (b:Keep k w w') (c:Apart F k):ImageIs w' base m p1 p2 F F1 F2 I:=by
 have a:=h.foot;exact⟨h.blk.keep b (c m (by simp[a])),h.b.keep b (fun x d=>c x (by simp[a,d])),h.o.keep b (fun x d=>c x (by simp[a,d])),h.apart,h.m1,h.m2,a,h.base,h.ok⟩
theorem kO (h:ImageIs w base m p1 p2 F F1 F2 I) (a:kz w w'):ImageIs w' base m p1 p2 F F1 F2 I:=h.keep a Apart.nil_right
theorem lt (h:ImageIs w base m p1 p2 F F1 F2 I):∀ x∈F,x<w.heap.size:=by
 rw[h.foot];intro x a;simp only[AL,AD] at a;rcases a with rfl | a | a
 . exact h.blk.lt
 . exact h.b.lt x a
 exact h.o.lt x a
theorem ge (h:ImageIs w base m p1 p2 F F1 F2 I):∀ x∈F,base<=x:=by
 rw[h.foot];intro x a;simp only[AL,AD] at a;rcases a with rfl | a | a
 . exact h.base
 . exact h.b.ge x a
 exact h.o.ge x a
theorem cells (h:ImageIs w base m p1 p2 F F1 F2 I):cl w m (pq p1)/\cl w (aq m 1) (pq p2):=
 ⟨uq (h.blk.cell 0),uq (h.blk.cell 1)⟩
theorem setB (h:ImageIs w base m p1 p2 F F1 F2 I) {l:List Int} {ds:List Bool} (b:PagedAt w' base p1 F1 l ds) (a:Keep F1 w w') (c:l.length=I.bl.length) (d:∀ x∈l,0<=x/\x<4096):ImageIs w' base m p1 p2 F F1 F2 { I with bl:=l,bd:=ds }:=
 ⟨h.blk.keep a h.m1,b,h.o.keep a h.apart.symm,h.apart,h.m1,h.m2,h.foot,h.base,⟨c.trans h.ok.1,d,h.ok.2.2⟩⟩
theorem setO (h:ImageIs w base m p1 p2 F F1 F2 I) {l:List Int} {ds:List Bool} (b:PagedAt w' base p2 F2 l ds) (a:Keep F2 w w') (c:l.length=I.ol.length) (d:∀ x∈l,-1<=x/\x<4096):ImageIs w' base m p1 p2 F F1 F2 { I with ol:=l,od:=ds }:=
 ⟨h.blk.keep a h.m2,h.b.keep a h.apart,b,h.apart,h.m1,h.m2,h.foot,h.base,⟨h.ok.1.trans c.symm,h.ok.2.1,d⟩⟩
theorem subB (h:ImageIs w base m p1 p2 F F1 F2 I):∀ x∈F1,x∈F:=fun x a=>by rw[h.foot];simp[a]
theorem subO (h:ImageIs w base m p1 p2 F F1 F2 I):∀ x∈F2,x∈F:=fun x a=>by rw[h.foot];simp[a]
end ImageIs
namespace ImageAt
variable {w w':World} {base m:Nat} {F k:List Nat} {I:PImage}
theorem keep (h:ImageAt w base m F I) (a:Keep k w w') (b:Apart F k):ImageAt w' base m F I:=by obtain⟨p1,p2,F1,F2,h⟩:=h;exact⟨p1,p2,F1,F2,h.keep a b⟩
theorem kO (h:ImageAt w base m F I) (a:kz w w'):ImageAt w' base m F I:=h.keep a Apart.nil_right
theorem lt (h:ImageAt w base m F I):∀ x∈F,x<w.heap.size:=by obtain⟨p1,p2,F1,F2,h⟩:=h;exact h.lt
theorem ge (h:ImageAt w base m F I):∀ x∈F,base<=x:=by obtain⟨p1,p2,F1,F2,h⟩:=h;exact h.ge
theorem ok (h:ImageAt w base m F I):I.Ok:=by obtain⟨p1,p2,F1,F2,h⟩:=h;exact h.ok
theorem few (h:ImageAt w base m F I):1<=I.bl.length/\I.bl.length<=64:=by obtain⟨p1,p2,F1,F2,h⟩:=h;exact h.b.few
end ImageAt
section
variable (w:World) (base m p1 p2:Nat) (F F1 F2:List Nat) (I:PImage) (h:ImageIs w base m p1 p2 F F1 F2 I)
include h
theorem YR (a:Bool):cq 230 #[pq m,.bool a] w (pq (if a then p2 else p1)):=by
 obtain⟨b,c⟩:=h.cells;cases a
 all_goals
  go_enter func230,ntmps230
  go_wp2
  go_ret;exact⟨rfl,rfl⟩
theorem BlocksI_is:cq 242 #[pq m] w I.bl.length:=by
 have a:=YR w base m p1 p2 F F1 F2 I h false;have b:=LenP_is w base p1 F1 I.bl I.bd h.b;go_enter func242,ntmps242;go_wp2_with (first | (go_at_call 230;refine a.mono ?_;rintro e w' ⟨rfl,rfl⟩) | (go_at_call 344;refine b.mono ?_;rintro e w' ⟨rfl,rfl⟩));go_ret;exact⟨rfl,rfl⟩
theorem ZAJ (b n:Nat) (c:1<=n) (d:b+n<=I.bl.length):cq 328 #[pq m,b,n] w (.bool true):=by
 have a:=BlocksI_is w base m p1 p2 F F1 F2 I h;have f:=h.b.few.2;have g:(1:Int)<=(n:Nat):=Z
 have i:((n:Nat):Int)<=(I.bl.length:Nat):=Z
 have j:((b:Nat):Int)<=(I.bl.length:Nat)-(n:Nat):=Z
 generalize I.bl.length=k at *;go_enter func328,ntmps328;go_wp2_with (refine a.mono ?_;rintro e w' ⟨rfl,rfl⟩);go_ret;exact⟨rfl,rfl⟩
end
def YH (was z:Int):Int:=if was=z then 0 else max was 0
theorem YAX {w:World} {base p:Nat} {F:List Nat} {l:List Int} {ds:List Bool} (h:PagedAt w base p F l ds) (i:Nat) (hi:i<l.length) (z:Int) :
 Calls prog 240 #[pq p,i,ii z] w fun e w'=>e=.returned (.int .i64 (YH l[i] z))/\PagedAt w' base p F (l.set i z) (QH l ds i z)/\Keep F w w':=by
 have f:=Jk w base p F l ds h i hi;have g:=JAG w base p F l ds h i hi z;by_cases a:l[i]=z
 . have j:(l[i] == z)=true:=by simp[a]
   have b:YH l[i] z=0:=by unfold YH;rw[AJ a]
   rw[b];clear a b;generalize l[i]=y at *;go_enter func240,ntmps240;go_wp2_with (first | (go_at_call 235;refine f.mono ?_;rintro e w' ⟨rfl,rfl⟩) | (go_at_call 241;refine g.mono ?_;rintro e w1 ⟨rfl,c,d⟩));go_ret;exact⟨rfl,c,d⟩
 have j:(l[i] == z)=false:=uq a
 have b:YH l[i] z=max l[i] 0:=by unfold YH;rw[AF a]
 rw[b];clear a b;generalize l[i]=y at *;go_enter func240,ntmps240;go_wp2_with (first | (go_at_call 235;refine f.mono ?_;rintro e w' ⟨rfl,rfl⟩) | (go_at_call 241;refine g.mono ?_;rintro e w1 ⟨rfl,c,d⟩))
 all_goals
  go_ret;exact⟨JL Z,c,d⟩
theorem XBY {w:World} {base m p1 p2:Nat} {F F1 F2:List Nat} {I:PImage} (h:ImageIs w base m p1 p2 F F1 F2 I) (b a:Nat) (c:b<I.ol.length) (d:1<=a/\a<4096) :
 Calls prog 243 #[pq m,.bool true,b,a] w fun e w'=>e=.returned (.tuple #[ii (YH I.ol[b] a),.bool true])/\PagedAt w' base p2 F2 (I.ol.set b a) (QH I.ol I.od b a)/\Keep F2 w w':=by
 have f:=ZAJ w base m p1 p2 F F1 F2 I h b 1 (AG _) (by rw[h.ok.1];exact c);have g:=YR w base m p1 p2 F F1 F2 I h true;have i:=YAX h.o b c a;obtain⟨l,n⟩:=d;have o:(1:Int)<=(a:Nat):=Z
 have p:((a:Nat):Int)<4096:=Z
 generalize YH I.ol[b] a=y at *;go_enter func243,ntmps243;go_wp2_with (first | (go_at_call 328;refine f.mono ?_;rintro e w' ⟨rfl,rfl⟩) | (go_at_call 230;refine g.mono ?_;rintro e w' ⟨rfl,rfl⟩) | (go_at_call 240;refine i.mono ?_;rintro e w1 ⟨rfl,j,k⟩));go_ret2;exact⟨rfl,j,k⟩
theorem YBF {w:World} {base m:Nat} {F:List Nat} {I:PImage} (h:ImageAt w base m F I) (b a:Nat) (g:b<I.bl.length) (i:1<=a/\a<4096) :
 Calls prog 110 #[pq m,b,a] w fun e w'=>e=.returned (.tuple #[ii (YH (I.ol.getD b 0) a),.bool true])/\ImageAt w' base m F { I with ol:=I.ol.set b a,od:=QH I.ol I.od b a }/\Keep F w w':=by
 obtain⟨p1,p2,F1,F2,h⟩:=h;have d:b<I.ol.length:=by rw[<- h.ok.1];exact g
 have j:=XBY h b a d i;rw[Ze d];generalize YH I.ol[b] a=y at *;go_enter func110,ntmps110;go_wp2_with (refine j.mono ?_;rintro e w1 ⟨rfl,k,f⟩);go_ret2;refine⟨rfl,⟨p1,p2,F1,F2,h.setO k f sq ?_⟩,f.sub h.subO⟩;intro x c;rcases AS c with c | rfl
 . exact h.ok.2.2 x c
 omega
def VR (b:Nat) (s:List Int×List Int×List Bool) (i:Nat):List Int×List Int×List Bool:=
 (s.1++(if 0<YH (s.2.1.getD (b+i) 0) 0 then [YH (s.2.1.getD (b+i) 0) 0] else []),s.2.1.set (b+i) 0,QH s.2.1 s.2.2 (b+i) 0)
def JG (b n:Nat) (l:List Int) (ds:List Bool):List Int×List Int×List Bool:=(List.range n).foldl (VR b) ([],l,ds)
theorem QU (b n:Nat) (l:List Int) (ds:List Bool):JG b (n+1) l ds=VR b (JG b n l ds) n:=by simp[JG,Bq]
theorem Jx (l:List Int) (ds:List Bool) (i:Nat) (z:Int):(QH l ds i z).length=ds.length:=by unfold QH;split <;> simp
theorem ZL (b n:Nat) (l:List Int) (ds:List Bool):(JG b n l ds).2.1.length=l.length/\(JG b n l ds).2.2.length=ds.length:=by
 induction n with
 | zero=>exact⟨rfl,rfl⟩
 | succ n ih=>rw[QU];simp[VR,Jx,ih]
theorem Vr {x:Int} (h:-1<=x/\x<4096):0<=YH x z/\YH x z<4096:=by unfold YH;split <;> omega
theorem QBS {l:List Int} {i:Nat} (h:i<l.length):l.getD i 0∈l:=by rw[Ze h];exact AN _
theorem XW (b n:Nat) (l:List Int) (ds:List Bool) (lo:Int) (f:-1<=lo/\lo<=0) (h:∀ x∈l,lo<=x/\x<4096) :
 (∀ x∈(JG b n l ds).2.1,lo<=x/\x<4096)/\(∀ x∈(JG b n l ds).1,0<x/\x<4096)/\(JG b n l ds).1.length<=n:=by
 induction n with
 | zero=>exact⟨h,by simp[JG],by simp[JG]⟩
 | succ n ih=>
   obtain⟨c,d,g⟩:=ih;rw[QU];simp only[VR]
   have i:YH ((JG b n l ds).2.1.getD (b+n) 0) 0<4096:=by
    by_cases e:b+n<(JG b n l ds).2.1.length
    . have:=c _ (QBS e)
      exact(Vr ⟨Z,this.2⟩).2
    have:(JG b n l ds).2.1.getD (b+n) 0=0:=by rw[AA,Bc Z];rfl
    rw[this];decide
   refine⟨fun x a=>?_,fun x a=>?_,?_⟩
   . rcases AS a with a | rfl
     . exact c x a
     omega
   . rcases AD.1 a with a | a
     . exact d x a
     split at a
     . rw[Ag.1 a];omega
     cases a
   rw[AE];split <;> simp <;> omega
theorem JBO {w:World} {base m p1 p2:Nat} {F F1 F2:List Nat} {I:PImage} (h:ImageIs w base m p1 p2 F F1 F2 I) (b n:Nat) (Q:1<=n) (R:b+n<=I.ol.length) :
 Calls prog 323 #[pq m,.bool true,b,n] w fun e w'=>∃ G,e=.returned (.tuple #[G,.bool true])/\w'.ownsRow w.heap.size 3 1 G (JG b n I.ol I.od).1.length (KW (JG b n I.ol I.od).1) /\
  PagedAt w' base p2 F2 (JG b n I.ol I.od).2.1 (JG b n I.ol I.od).2.2/\Keep F2 w w':=by
 have X:=h.o.few.2;have S:=ZAJ w base m p1 p2 F F1 F2 I h b n Q (by rw[h.ok.1];exact R);have Y:=(ZL b 0 I.ol I.od).1;go_enter func323,ntmps323;go_wp2_with (go_at_call 328;refine S.mono ?_;rintro e w' ⟨rfl,rfl⟩)
 go_loopw [8,10,11,18] (fun G _ _ i wr=>∃ (k:Nat) (s:List Int×List Int×List Bool),k<=n/\i=.int .i64 k/\Hid (s=JG b k I.ol I.od)/\wr.ownsRow w.heap.size 3 1 G s.1.length (KW s.1)/\PagedAt wr base p2 F2 s.2.1 s.2.2/\Keep F2 w wr)
  (fun _ _ _ i _=>n-(intOf i).toNat)
 case atStart=>exact⟨0,_,AP _,rfl,rfl,AZ _ _ _ _,h.o,kq⟩
 obtain⟨k,s,hk,rfl,d,c,q,j⟩:=hrel
 have a0:s.1.length<=64:=by
  have:=(XW b k I.ol I.od (-1) Z h.ok.2.2).2.2;rw[<- ZA d] at this;omega
 have T:s.2.1.length=I.ol.length:=by rw[ZA d];exact(ZL b k I.ol I.od).1
 by_cases a1:k<n
 . have a2:((k:Nat):Int)<(n:Nat):=Z
   have A:b+k<s.2.1.length:=Z
   have B:ImageIs wr base m p1 p2 F F1 F2 { I with ol:=s.2.1,od:=s.2.2 }:=h.setO q j T (by rw[ZA d];exact(XW b k I.ol I.od (-1) Z h.ok.2.2).1);have C:=YR wr base m p1 p2 F F1 F2 _ B true;have o:=YAX q (b+k) A 0;have D:JG b (k+1) I.ol I.od=VR b s k:=by rw[QU,<- ZA d]
   have E:=Ze A
   have U:=Vr (x:=s.2.1[b+k]) (z:=0) (by
    have:=(XW b k I.ol I.od (-1) Z h.ok.2.2).1 s.2.1[b+k] (by rw[<- ZA d];exact AN _);exact this)
   have H:=ZB D;have J:=ZB E;have a3:IntKind.i64.wrap ((b:Nat)+(k:Nat):Int)=(b:Nat)+(k:Nat):=by rw[AI];omega
   clear D E B;rw[show (((b+k:Nat):Nat):Int)=(b:Nat)+(k:Nat) from Z] at o;obtain⟨K,L,rfl,_⟩:=XB c;obtain⟨y,r⟩:=ex (YH s.2.1[b+k] 0);rw[<- r] at o U;have M:=ZB r;clear r;by_cases V:0<y
   . go_wp2_with (first
      | (go_at_call 230;refine C.mono ?_;rintro e w' ⟨rfl,rfl⟩)
      | (go_at_call 240;refine o.mono ?_;rintro e w1 ⟨rfl,t,f⟩;(have p:=KA c f (fun g u l=>by have:=(own_mem c (g:=g) (uq u)).1;have:=h.o.lt g l;omega)))
      | (refine elemInts.wp_app rfl (.tmp 30) (.tmp 32) rfl w.heap.size _ s.1.length (KW s.1) rfl (XE p _) _ 1 1 [.int .i64 y] rfl (XS _ _ _) (by simp[Value.oneCell']) Z Z (by have:=j.size;have:=f.size;simp;omega) ?_;rintro a4 w2 N W _ _;(obtain⟨a5,a6,rfl,_⟩:=XB N);(have O:Keep (Value.slice K s.1.length L).ownBlock.toList w1 w2:=(kq.alloc _).trans W (fun x a=>.inl a))))
     go_roundw
     case rel=>
      have v:VR b s k=(s.1++[y],s.2.1.set (b+k) 0,QH s.2.1 s.2.2 (b+k) 0):=by unfold VR;rw[ZA J,<- ZA M,AJ V]
      have P:=fun x a=>(own_mem p (g:=x) a).1;refine⟨k+1,_,Z,by go_num,(by show _=_;rw[ZA H,v]),by simpa [KW,i64] using N,t.keep O (fun x a l=>by have:=h.o.lt x a;have:=P x l;omega),(j.trans f (fun x a=>.inl a)).trans O (fun x a=>.inr (P x a))⟩
     case measure=>simp[intOf];omega
   go_wp2_with (first
    | (go_at_call 230;refine C.mono ?_;rintro e w' ⟨rfl,rfl⟩)
    | (go_at_call 240;refine o.mono ?_;rintro e w1 ⟨rfl,t,f⟩;(have p:=KA c f (fun g u l=>by have:=(own_mem c (g:=g) (uq u)).1;have:=h.o.lt g l;omega))))
   go_roundw
   case rel=>
    have v:VR b s k=(s.1,s.2.1.set (b+k) 0,QH s.2.1 s.2.2 (b+k) 0):=by unfold VR;rw[ZA J,<- ZA M,AF Z,Bg]
    exact⟨k+1,(s.1,s.2.1.set (b+k) 0,QH s.2.1 s.2.2 (b+k) 0),Z,by go_num,(by show _=_;rw[ZA H,v]),p,t,j.trans f (fun x a=>.inl a)⟩
   case measure=>simp[intOf];omega
 obtain rfl:k=n:=Z
 obtain⟨K,L,rfl,_⟩:=XB c;go_wp2_with fail;go_ret2;rw[<- ZA d];exact⟨_,rfl,c,q,j⟩
theorem XBR {w:World} {base m:Nat} {F:List Nat} {I:PImage} (h:ImageAt w base m F I) (b n:Nat) (f:1<=n) (g:b+n<=I.bl.length) :
 Calls prog 208 #[pq m,b,n] w fun e w'=>∃ G,e=.returned (.tuple #[G,.bool true])/\w'.ownsRow w.heap.size 3 1 G (JG b n I.ol I.od).1.length (KW (JG b n I.ol I.od).1) /\
  ImageAt w' base m F { I with ol:=(JG b n I.ol I.od).2.1,od:=(JG b n I.ol I.od).2.2 }/\Keep F w w':=by
 obtain⟨p1,p2,F1,F2,h⟩:=h;have i:=JBO h b n f (by rw[<- h.ok.1];exact g);have a:=(ZL b n I.ol I.od).1;have j:=(XW b n I.ol I.od (-1) Z h.ok.2.2).1;generalize JG b n I.ol I.od=s at *;have k:=ZB a;clear a;go_enter func208,ntmps208;go_wp2_with (refine i.mono ?_;rintro e w1 ⟨G,rfl,c,l,d⟩;obtain⟨o,p,rfl,_⟩:=XB c);go_ret2;exact⟨_,rfl,c,⟨p1,p2,F1,F2,h.setO l d (ZA k) j⟩,d.sub h.subO⟩
theorem ZBd (w:World) (n:Nat) (f:1<=n) (g:n<=64) :
 Calls prog 183 #[n] w fun e w'=>∃ m F,e=.returned (pq m)/\ImageAt w' w.heap.size m F ⟨List.replicate n 0,List.replicate (pgs n) false,List.replicate n (-1),List.replicate (pgs n) false⟩/\kz w w':=by
 have h:=YAu n 0 f g w;have o:=fun W=>YAu n (-1) f g W;have p:(1:Int)<=(n:Nat):=Z
 have r:((n:Nat):Int)<=64:=Z
 go_enter func183,ntmps183;go_wp2_with (first | (refine h.mono ?_;clear h;rintro e w1 ⟨p1,F1,rfl,i,a⟩) | (refine(o _).mono ?_;rintro e w2 ⟨p2,F2,rfl,b,j⟩));go_ret;have k:kz w w2:=a.tO j;have l:=i.kO j;refine⟨_,_,rfl,⟨p1,p2,F1,F2,Blk.new _ _ _,l.kO (kq.alloc _),?_,?_,fun c=>?_,fun c=>?_,rfl,k.size,?_⟩,k.alloc _⟩
 . obtain⟨L,U,q⟩:=b.kO (kq.alloc (.cells #[pq p1,pq p2] 298))
   exact⟨L,U,q.blk,VC q.rl a.size,VC q.rd a.size,q.foot,AB a.size q.base,q.pos,q.few,q.pages⟩
 . exact Apart.new (n:=w1.heap.size) i.lt b.ge
 . exact absurd (l.lt _ c) Z
 . exact absurd (b.lt _ c) Z
 refine⟨sq,fun x d=>?_,fun x d=>?_⟩
 . have:=AX d;omega
 have:=AX d;omega
structure PRD where
 n:Nat
 sv:List Value
 hs:List (Nat×Value)
 lv:List Value
 asked:Nat
def hdc (q:Nat×Value):List Value:=[.int .i64 q.1,q.2]
theorem ZAE (q:Nat×Value):(hdc q).length=2:=rfl
structure RDkIs (w:World) (base d:Nat) (S H U L:Value) (F:List Nat) (R:PRD):Prop where
 blk:Blk w d 264 #[S,H,U,ii (-1),.bool false,ii R.asked,L]
 safe:w.ownsRow base 66 1 S R.n R.sv
 held:w.ownsRow base 363 2 H R.hs.length (R.hs.flatMap hdc)
 flt:w.ownsRow base 4 1 U R.n (List.replicate R.n (.bool false))
 laid:w.ownsRow base 66 1 L R.lv.length R.lv
 ne:S.ownBlock≠L.ownBlock
 foot:F=d :: (S.ownBlock.toList++(H.ownBlock.toList++(U.ownBlock.toList++L.ownBlock.toList)))
 base:base<=d
 pos:0<R.n
 few:R.n<=4096
 ats:∀ p∈R.hs,p.1<R.n/\∃ A n c,p.2=.slice A n c
 hfew:R.hs.length<=R.asked/\R.lv.length<=100000
def RDkAt (w:World) (base d:Nat) (F:List Nat) (R:PRD):Prop:=∃ S H U L,RDkIs w base d S H U L F R
namespace RDkIs
variable {w w':World} {base d:Nat} {S H U L:Value} {F l:List Nat} {R:PRD}
theorem keep (h:RDkIs w base d S H U L F R) (c:Keep l w w') (e:Apart F l):RDkIs w' base d S H U L F R:=by
 have b:=h.foot
 refine⟨h.blk.keep c (e d (by simp[b])),KA h.safe c fun g a=>e g (by simp[b,a]),KA h.held c fun g a=>e g (by simp[b,a]),KA h.flt c fun g a=>e g (by simp[b,a]),
  KA h.laid c fun g a=>e g (by simp[b,a]),h.ne,b,h.base,h.pos,h.few,h.ats,h.hfew⟩
theorem kO (h:RDkIs w base d S H U L F R) (a:kz w w'):RDkIs w' base d S H U L F R:=h.keep a Apart.nil_right
theorem lt (h:RDkIs w base d S H U L F R):∀ x∈F,x<w.heap.size:=by
 rw[h.foot];intro x a;simp only[AL,AD] at a;rcases a with rfl | a | a | a | a
 . exact h.blk.lt
 . exact(own_mem h.safe a).2
 . exact(own_mem h.held a).2
 . exact(own_mem h.flt a).2
 exact(own_mem h.laid a).2
theorem ge (h:RDkIs w base d S H U L F R):∀ x∈F,base<=x:=by
 rw[h.foot];intro x a;simp only[AL,AD] at a;rcases a with rfl | a | a | a | a
 . exact h.base
 . exact(own_mem h.safe a).1
 . exact(own_mem h.held a).1
 . exact(own_mem h.flt a).1
 exact(own_mem h.laid a).1
theorem dS (h:RDkIs w base d S H U L F R):d∉S.ownBlock.toList:=fun a=>own_blk_ne h.safe h.blk (by decide) (uq a)
theorem dH (h:RDkIs w base d S H U L F R):d∉H.ownBlock.toList:=fun a=>own_blk_ne h.held h.blk (by decide) (uq a)
theorem dU (h:RDkIs w base d S H U L F R):d∉U.ownBlock.toList:=fun a=>own_blk_ne h.flt h.blk (by decide) (uq a)
theorem dL (h:RDkIs w base d S H U L F R):d∉L.ownBlock.toList:=fun a=>own_blk_ne h.laid h.blk (by decide) (uq a)
theorem setBlk (h:RDkIs w base d S H U L F R) (c:Keep [d] w w') (a:Nat) (e:R.asked<=a) (f:Blk w' d 264 #[S,H,U,ii (-1),.bool false,ii a,L]):RDkIs w' base d S H U L F { R with asked:=a }:=
 ⟨f,KA h.safe c (fun g b=>by simp;rintro rfl;exact h.dS (uq b)),KA h.held c (fun g b=>by simp;rintro rfl;exact h.dH (uq b)),
   KA h.flt c (fun g b=>by simp;rintro rfl;exact h.dU (uq b)),KA h.laid c (fun g b=>by simp;rintro rfl;exact h.dL (uq b)),h.ne,h.foot,h.base,h.pos,h.few,h.ats,⟨AB h.hfew.1 e,h.hfew.2⟩⟩
end RDkIs
namespace RDkAt
variable {w w':World} {base d:Nat} {F l:List Nat} {R:PRD}
theorem keep (h:RDkAt w base d F R) (a:Keep l w w') (b:Apart F l):RDkAt w' base d F R:=by
 obtain⟨S,H,U,L,h⟩:=h;exact⟨S,H,U,L,h.keep a b⟩
theorem kO (h:RDkAt w base d F R) (a:kz w w'):RDkAt w' base d F R:=h.keep a Apart.nil_right
theorem lt (h:RDkAt w base d F R):∀ x∈F,x<w.heap.size:=by obtain⟨S,H,U,L,h⟩:=h;exact h.lt
theorem ge (h:RDkAt w base d F R):∀ x∈F,base<=x:=by obtain⟨S,H,U,L,h⟩:=h;exact h.ge
end RDkAt
theorem VH {w:World} {t:TypeId} {a b c d e f i:Value} (h:Blk w g t #[a,b,c,d,e,f,i]) :
 cl w g a/\cl w (aq g 1) b/\cl w (aq g 2) c/\cl w (aq g 3) d/\cl w (aq g 4) e/\cl w (aq g 5) f/\cl w (aq g 6) i:=
 ⟨uq (h.cell 0),uq (h.cell 1),uq (h.cell 2),uq (h.cell 3),uq (h.cell 4),uq (h.cell 5),uq (h.cell 6)⟩
theorem elemHeld:ElemN prog 262 363 (.agg #[zz,zn]) 2 32:=ElemN.of underlying262 (by kernel_rfl) rfl Z
theorem ZAp {w:World} {base d:Nat} {S H U L:Value} {F:List Nat} {R:PRD} (h:RDkIs w base d S H U L F R) (c:R.asked<=1000000000) :
 Calls prog 312 #[pq d] w fun e w'=>e=.returned (.bool true)/\RDkIs w' base d S H U L F { R with asked:=R.asked+1 }/\Keep [d] w w':=by
 obtain⟨f,g,i,j,k,l,m⟩:=VH h.blk;have n:=h.blk.frozen 5;have a:Keep [d] w (w.setCell (aq d 5) (.int .i64 (R.asked+1:Nat))):=(Keep.refl [d] w).sc d 5;have b:=h.setBlk a (R.asked+1) (Nat.le_succ _) (uq (h.blk.set 5 (.int .i64 (R.asked+1:Nat))));clear h;go_enter func312,ntmps312
 go_wp2
 go_ret;exact⟨rfl,uq b,uq a⟩
theorem RDkIs.setHeld {w:World} {base d:Nat} {S H U L:Value} {F:List Nat} {R:PRD} (h:RDkIs w base d S H U L F R) (i:Keep H.ownBlock.toList w w2) (b:Value) (q:Nat×Value)
 (y:w2.ownsRow base 363 2 b (R.hs.length+1) (R.hs.flatMap hdc++hdc q)) (N:Nat) (I:w.heap.size<=N) (o:b.ownBlock=H.ownBlock\/b.ownBlock=some N) (z:q.1<R.n/\∃ A n c,q.2=.slice A n c) (B:R.hs.length+1<=R.asked) :
 ∃ r,RDkIs (w2.setCell (aq d 1) b) base d S b U L r { R with hs:=R.hs++[q] }/\Keep F w (w2.setCell (aq d 1) b)/\Grow w F r:=by
 have j:=h.foot;have k:Keep [d] w2 (w2.setCell (aq d 1) b):=kq.sc d 1;have t:d∉H.ownBlock.toList:=h.dH;have C:=(h.blk.keep i t).set 1 b
 have l:∀ {e:TypeId} {s n:Nat} {v:Value} {xs:List Value},w.ownsRow base e s v n xs->e≠363->d∉v.ownBlock.toList->(w2.setCell (aq d 1) b).ownsRow base e s v n xs:=fun u D E=>
  KA (KA u i (fun x a f=>own_ne u h.held D a (uq f))) k (fun x a=>by simp;rintro rfl;exact E (uq a))
 have G:d∉b.ownBlock.toList:=fun f=>by
  rcases o with e | e
  . rw[e] at f;exact t f
  rw[e] at f;simp at f;have:=h.blk.lt;omega
 refine⟨_,⟨uq C,l h.safe (by decide) h.dS,?_,l h.flt (by decide) h.dU,l h.laid (by decide) h.dL,h.ne,rfl,h.base,h.pos,h.few,?_,⟨uq B,h.hfew.2⟩⟩,?_,?_⟩
 . have:=KA y k (fun x a=>by simp;rintro rfl;exact G (uq a))
   simpa using this
 . intro p g
   simp only[AD,Ag] at g;rcases g with g | rfl
   . exact h.ats p g
   exact z
 . exact(i.sub (fun x a=>by rw[j];simp at a;simp[a])).trans (k.sub (m:=F) (fun x a=>by rw[j];simp at a;simp[a])) (fun x a=>.inl a)
 intro x a
 simp only[AL,AD] at a;rw[j];simp only[AL,AD];rcases a with a | a | a | a | a
 . simp[a]
 . simp[a]
 . rcases o with e | e
   . rw[e] at a;simp[a]
   rw[e] at a;simp at a;right;omega
 . simp[a]
 simp[a]
theorem Vu {w:World} {base d:Nat} {F:List Nat} {R:PRD} (h:RDkAt w base d F R) (G:R.asked<=1000000) (k:Nat) (I:k<R.n) {A:Option Addr} (c:Nat) (bs:List UInt8)
 (J:Rd w A 64 (bys bs)) (M:64<=c) (N:∀ a,A=some a->a.block∉F) (O:base<=w.heap.size) :
 Calls prog 296 #[pq d,k,.slice A 64 c] w fun e w'=>e=.returned zz/\∃ o p,RDkAt w' base d o p/\p.n=R.n/\p.asked=R.asked+1/\p.lv=R.lv/\Keep F w w'/\Grow w F o:=by
 obtain⟨S,H,U,L,h⟩:=h;obtain⟨g,nc,rfl,a5,a6⟩:=YD h.safe h.pos;have a7:=h.few;have a8:=h.pos;have t:=fun W=>JD (k:Nat) 0 ((R.n:Nat)-1) true (by simp;omega) W;have v:=ZAp h Z;obtain⟨a9,aa,c2,ab,c4,c5,c6⟩:=VH h.blk;go_enter func296,ntmps296;go_wp2_with (first | (go_at_call 147;refine(t _).mono ?_;clear t;rintro e w' ⟨rfl,rfl⟩) | (refine v.mono ?_;clear v;rintro e w1 ⟨rfl,b,r⟩));have y:Keep F w w1:=r.sub (fun x f=>by rw[h.foot];simp at f;simp[f]);have P:=J.keepIf y N;have Q:=(VH b.blk).2.1;have z:=Yl c bs 0 64 P.drew Z Z Z M Z;refine ZT (fun w'=>cl w' (aq d 1) H) 13 [[0,1,2,3,4,5,6,7,8],[9,10],[11],[12]] Q ?_;simp only[PI];iterate 9 refine wG ?_
 refine JB rq fun K i=>?_;go_wp2_with (refine z.mono ?_;clear z;rintro e w2 ⟨u,rfl,q,T⟩);have B:kz w1 w2:=kq.drew.tO T;obtain⟨j,l,rfl,_⟩:=XB q;refine i _ _ ((VH (b.kO B).blk).2.1) ?_
 iterate 1 refine wG ?_
 refine JB rq fun K i=>?_;go_wp2_with fail;have C:=Rd.of_blk (n:=2) (Blk.new w2 363 #[ii k,.slice j 64 l]) sq;rw[AK sq] at C;have m:kz w1 (w2.alloc (.cells #[ii k,.slice j 64 l] 363)):=B.alloc _;generalize ac:w2.heap.size=n4 at *;generalize w2.alloc (.cells #[ii k,.slice j 64 l] 363)=w3 at *;refine i _ _ ((VH (b.kO m).blk).2.1) ?_
 try simp only[Act.put,PU]
 refine JB rq fun K i=>?_;have ad:R.hs.length<=1000000:=AB h.hfew.1 G;refine elemHeld.wp1_app (.tmp 28) (.tmp 35) rq base H R.hs.length (R.hs.flatMap hdc) rq (QB b.held m) ⟨n4,0,none⟩ 1 1 [.int .i64 k,.slice j 64 l] rq C (fun u q=>by simp at q;rcases q with rfl | rfl <;> rfl) Z Z (AB O (AB r.size m.size)) ?_;intro V X D Y a0 _;have E:Keep H.ownBlock.toList w1 X:=m.zero.trans Y (fun x f=>.inl f);have a1:d∉H.ownBlock.toList:=b.dH;have s:=b.blk.keep E a1;refine i _ _ ((VH s).2.1) ?_
 try simp only[Act.put,PU]
 refine VB ?_;have q1:=s.frozen 1;have j1:=(VH s).2.1;obtain⟨o,a2,a3,a4⟩:=b.setHeld E V (k,.slice j 64 l) D w3.heap.size m.size a0 ⟨I,_,_,_,rfl⟩ (by have:=h.hfew.1;simp only;omega);obtain⟨A',ae,rfl,_⟩:=XB D;go_wp2_with fail;go_ret;exact⟨rfl,o,_,⟨_,_,_,_,a2⟩,rfl,rfl,rfl,y.trans a3 (fun x f=>.inl f),a4.keep r⟩
theorem RDkIs.setLaid {w:World} {base d:Nat} {S H U L:Value} {F:List Nat} {R:PRD} (h:RDkIs w base d S H U L F R) (f:Keep L.ownBlock.toList w w2) (c:Value) (q:Value)
 (u:w2.ownsRow base 66 1 c (R.lv.length+1) (R.lv++[q])) (N:Nat) (G:w.heap.size<=N) (j:c.ownBlock=L.ownBlock\/c.ownBlock=some N) (y:R.lv.length+1<=100000) :
 ∃ o,RDkIs (w2.setCell (aq d 6) c) base d S H U c o { R with lv:=R.lv++[q] }/\Keep F w (w2.setCell (aq d 6) c)/\Grow w F o:=by
 have k:=h.foot;have g:Keep [d] w2 (w2.setCell (aq d 6) c):=kq.sc d 6;have p:d∉L.ownBlock.toList:=h.dL;have z:=(h.blk.keep f p).set 6 c
 have r:∀ {e:TypeId} {s n:Nat} {v:Value} {xs:List Value},w.ownsRow base e s v n xs->e≠66->d∉v.ownBlock.toList->(w2.setCell (aq d 6) c).ownsRow base e s v n xs:=fun t A B=>
  KA (KA t f (fun x a b=>own_ne t h.laid A a (uq b))) g (fun x a=>by simp;rintro rfl;exact B (uq a))
 have C:d∉c.ownBlock.toList:=fun b=>by
  rcases j with e | e
  . rw[e] at b;exact p b
  rw[e] at b;simp at b;have:=h.blk.lt;omega
 obtain⟨sg,I,D,_⟩:=YD h.safe h.pos;have i:S.ownBlock=some sg:=by rw[D];rfl
 have J:sg<w.heap.size:=Qi h.safe sg (by rw[i];simp);have E:sg∉L.ownBlock.toList:=fun b=>h.ne (by rw[i];simp at b;exact b.symm);refine⟨_,⟨uq z,?_,r h.held (by decide) h.dH,r h.flt (by decide) h.dU,?_,?_,rfl,h.base,h.pos,h.few,h.ats,⟨h.hfew.1,uq y⟩⟩,?_,?_⟩
 . exact KA (KA h.safe f (fun x a b=>by rw[i] at a;cases a;exact E b)) g (fun x a=>by simp;rintro rfl;exact h.dS (uq a))
 . have:=KA u g (fun x a=>by simp;rintro rfl;exact C (uq a))
   simpa using this
 . intro e
   rcases j with l | l
   . exact h.ne (e.trans l)
   rw[i,l] at e
   injection e with e;omega
 . exact(f.sub (fun x a=>by rw[k];simp at a;simp[a])).trans (g.sub (m:=F) (fun x a=>by rw[k];simp at a;simp[a])) (fun x a=>.inl a)
 intro x a
 simp only[AL,AD] at a;rw[k];simp only[AL,AD];rcases a with a | a | a | a | a
 . simp[a]
 . simp[a]
 . simp[a]
 . simp[a]
 rcases j with e | e
 . rw[e] at a;simp[a]
 rw[e] at a;simp at a;right;omega
theorem KBO {w:World} {base d:Nat} {F:List Nat} {R:PRD} (h:RDkAt w base d F R) (t:R.lv.length<=1000) (A:Option Addr) (n c:Nat) (k:base<=w.heap.size) :
 Calls prog 200 #[pq d,.slice A n c] w fun e w'=>e=.returned (.tuple #[])/\∃ a b,RDkAt w' base d a b/\b.n=R.n/\b.asked=R.asked/\b.lv.length=R.lv.length+1/\Keep F w w'/\Grow w F a:=by
 obtain⟨S,H,U,L,h⟩:=h;obtain⟨u,y,z,B,C,D,E⟩:=VH h.blk;have f:kz w (w.alloc (.cells #[.slice A n c] 66)):=kq.alloc _;go_enter func200,ntmps200;go_wp2_with (at_builtin;refine elemRows.wp_app rfl (.tmp 8) (.tmp 10) rfl base L R.lv.length R.lv rfl (XE h.laid _) (some w.heap.size) 1 1 [.slice A n c] rfl (XS w (.slice A n c) 66) (by simp[Value.oneCell']) Z Z (AB k f.size) ?_);rintro l w2 g m o _;have i:Keep L.ownBlock.toList w w2:=f.zero.trans m (fun x p=>.inl p);have j:=h.blk.keep i h.dL;have G:=j.frozen 6;have I:=(VH j).2.2.2.2.2.2;obtain⟨a,q,r,s⟩:=h.setLaid i l (.slice A n c) g (w.heap.size+1) Z o Z;obtain⟨A',J,rfl,_⟩:=XB g;go_wp2_with fail;refine Dv (v:=.tuple #[]) (by simp[results,results200,go_sem]) rfl ?_;exact⟨rfl,a,_,⟨_,_,_,_,q⟩,rfl,rfl,sq,r,s⟩
theorem ZBD {w:World} {base d:Nat} {F:List Nat} {R:PRD} (h:RDkAt w base d F R) (Y:R.asked<=1000000) :
 Calls prog 194 #[pq d] w fun e w'=>e=.returned zz/\Keep F w w':=by
 obtain⟨S,H,U,L,h⟩:=h;obtain⟨sg,l,rfl,a0,a1⟩:=YD h.safe h.pos;have B:=ZAp h Z;have n:=h.foot;have P:=h.ats;have a2:=h.hfew.1;go_enter func194,ntmps194;go_wp2_with (refine B.mono ?_;clear B;rintro e w1 ⟨rfl,b,C⟩);have D:Keep F w w1:=C.sub (fun x a=>by rw[n];simp at a;simp[a]);have Q:d∉(Value.slice (some sg) R.n l).ownBlock.toList:=b.dS;have a3:=b.dH;have o:=b.blk;have p:=b.safe;have m:=b.held;simp only at o p m;obtain⟨E,r,rfl,_⟩:=XB m;clear b C h
 go_loopw [3] (fun i wr=>∃ (k:Nat) (s:List Value),k<=R.hs.length/\i=.int .i64 (k:Nat)/\Blk wr d 264 #[.slice (some sg) R.n l,.slice E R.hs.length r,U,ii (-1),.bool false,(R.asked+1:Nat),L] /\
  wr.ownsRow base 66 1 (.slice (some sg) R.n l) R.n s/\wr.ownsRow base 363 2 (.slice E R.hs.length r) R.hs.length (R.hs.flatMap hdc)/\Keep F w wr) (fun i _=>R.hs.length-(intOf i).toNat)
 case atStart=>exact⟨0,R.sv,AP _,rfl,o,p,m,D⟩
 clear o p m D;obtain⟨k,s,hk,rfl,t,c,f,G⟩:=hrel;obtain⟨T,V,c2,a4,c4,c5,c6⟩:=VH t;by_cases I:k<R.hs.length
 . have a5:((k:Nat):Int)<(R.hs.length:Nat):=Z
   obtain⟨j,a6,W,a7,_⟩:=YD f Z;injection W with e1 e2 e3;subst e1 e3;obtain⟨J,v,y,z,K⟩:=P R.hs[k] (AN _);have M:cl wr (aq j (k*2)) (R.hs[k].1:Nat):=XL f (by rw[show k*2=k*2+0 from rfl,YN ZAE R.hs k 0 I Z];rfl);have N:wr.cell? (aq j (k*2+1))=some R.hs[k].2:=XL f (by rw[YN ZAE R.hs k 1 I Z];rfl);generalize R.hs[k]=q at *;obtain⟨g,qv⟩:=q;simp only at J K M N;subst K;have a8:((g:Nat):Int)<(R.n:Nat):=Z
   have a9:=YAI f;have aa:=YAI c;go_wp2_with fail;refine ZT (fun w'=>cl w' d (.slice (some sg) R.n l)/\cl w' (aq d 1) (.slice (some j) R.hs.length r)/\cl w' (aq j (k*2)) g/\cl w' (aq j (k*2+1)) (.slice v y z)) 20 [[0,1,2,3,4,5,6,7,8,9,10,11,12,13,14,15,16,17,18,19]] ⟨T,V,M,N⟩ ?_;simp only[PI];iterate 20 refine wG ?_
   refine VB ?_;have X:=QQ c.drew g (.slice v y z);have q0:=YP c.drew g;have A:Keep [sg] wr (wr.drew.setCell (aq sg g) (.slice v y z)):=kq.drew.setCell (.inl sq) _;obtain⟨u,hu⟩:∃ u,wr.drew.cell? (aq sg g)=some u:=⟨_,XL c.drew (AC (by rw[show s.length=R.n from uq c.1];exact J))⟩;go_wp2_with fail;go_roundw;case rel=>exact⟨k+1,_,Z,by go_num,t.keep A (by simp;rintro rfl;exact Q (by simp[Value.ownBlock])),X,KA f A (fun x a O=>by simp at O;subst O;exact own_ne f c (by decide) a rfl),G.trans A (fun x a=>.inl (by simp at a;subst a;rw[n];simp[Value.ownBlock]))⟩
   case measure=>simp[intOf];omega
 obtain rfl:R.hs.length=k:=Z
 have q1:=t.frozen 1;go_wp2_with fail;go_ret;exact⟨rfl,G.trans ((Keep.refl [d] wr).sc d 1) (fun x a=>.inl (by simp at a;subst a;rw[n];simp))⟩
def RDkNew (w:World) (base d:Nat) (F:List Nat) (n:Nat):Prop:=
 ∃ S U R,RDkIs w base d S (.slice none 0 0) U (.slice none 0 0) F R/\R.n=n/\R.hs=[]/\R.lv=[]/\R.asked=0/\∀ v∈R.sv,w.ownsRow base 5 1 v 64 (bys (List.replicate 64 0))
theorem RDkNew.kO {w w':World} {base d:Nat} {F:List Nat} (h:RDkNew w base d F n) (a:kz w w'):RDkNew w' base d F n:=by
 obtain⟨S,U,R,b,c,e,f,g,i⟩:=h;exact⟨S,U,R,b.kO a,c,e,f,g,fun v j=>QB (i v j) a⟩
theorem RDkNew.at_ {w:World} {base d:Nat} {F:List Nat} (h:RDkNew w base d F n):∃ R,RDkAt w base d F R/\R.n=n/\R.lv=[]/\R.asked=0:=by
 obtain⟨S,U,R,a,b,f,c,e,g⟩:=h;exact⟨R,⟨_,_,_,_,a⟩,b,c,e⟩
theorem KBE {w:World} {base d:Nat} {F:List Nat} (h:RDkNew w base d F n) (k:Nat) (a:k<n) :
 Calls prog 292 #[pq d,k] w fun e w'=>∃ u,e=.returned (.tuple #[u,zz])/\w'.ownsRow w.heap.size 5 1 u 64 (bys (List.replicate 64 0))/\kz w w':=by
 obtain⟨S,U,R,h,rfl,o,p,r,c⟩:=h;obtain⟨sg,A,rfl,B,C⟩:=YD h.safe h.pos;obtain⟨s,D,rfl,E,G⟩:=YD h.flt h.pos;obtain⟨H,I,J,K,L,M,N⟩:=VH h.blk;have O:=h.pos;have P:=h.few;have f:=fun W=>JD (k:Nat) 0 ((R.n:Nat)-1) true (by simp;omega) W;have Q:((k:Nat):Int)<(R.n:Nat):=Z
 have T:cl w (aq s k) (.bool false):=XL h.flt (by rw[Au,AJ a]);have g:k<R.sv.length:=by rw[show R.sv.length=R.n from uq h.safe.1];exact a
 have V:w.cell? (aq sg k)=some R.sv[k]:=XL h.safe (AC g);have j:=c R.sv[k] (AN _);generalize R.sv[k]=q at *;obtain⟨t,l,rfl,v⟩:=JI j sq;have m:=Yl l (List.replicate 64 0) 0 64 (Rd.of_own j) Z Z Z (uq v) Z;clear c o p r g h;go_enter func292,ntmps292;go_wp2_with (first | (go_at_call 147;refine(f _).mono ?_;clear f;rintro e w' ⟨rfl,rfl⟩));go_loopw [6,7] (fun b i wr=>b=.slice (some t) 64 l/\i=.int .i64 0/\wr=w) (fun _ _ _=>0)
 case atStart=>exact⟨sq,rfl,rfl⟩
 obtain⟨rfl,rfl,rfl⟩:=hrel;go_wp2_with (refine m.mono ?_;clear m;rintro e w1 ⟨u,rfl,y,z⟩);go_ret2;exact⟨_,rfl,uq y,z⟩
theorem elem8N:ElemN prog 66 5 (.int .u8 0) 1 1:=ElemN.of underlying66 (by kernel_rfl) rfl Z
theorem YAU (n:Nat) (C:0<n) (R:n<=4096) (w:World) :
 Calls prog 178 #[n] w fun e w'=>∃ d F,e=.returned (pq d)/\RDkNew w' w.heap.size d F n/\kz w w':=by
 have D:=fun W=>JD (n:Nat) 1 4096 true (by simp;omega) W;go_enter func178,ntmps178
 go_wp2_with (first
  | (go_at_call 147;refine(D _).mono ?_;clear D;rintro e w' ⟨rfl,rfl⟩)
  | (at_make;refine elemBool.wp_make rfl _ _ rfl .i64 .i64 n rfl rfl Z Z ?_;intro w1 g1 T E G t;subst T))
 have H:w1.ownsRow w.heap.size 4 1 (.slice (some w.heap.size) n n) n (List.replicate n (.bool false)):=JN (e:=4) (s:=1) (z:=.bool false) G Z Z Z sq rfl;have o:=Blk.new w1 264 #[zn,zn,.slice (some w.heap.size) n n,ii (-1),.bool false,zz,zn];have I:kz w (w1.alloc (.cells #[zn,zn,.slice (some w.heap.size) n n,ii (-1),.bool false,zz,zn] 264)):=t.alloc _;have J:=XE H (.cells #[zn,zn,.slice (some w.heap.size) n n,ii (-1),.bool false,zz,zn] 264);have u:w.heap.size<=w1.heap.size:=t.size;generalize L:w1.alloc (.cells #[zn,zn,.slice (some w.heap.size) n n,ii (-1),.bool false,zz,zn] 264)=wA at *;rw[E] at o u;clear H t E G;obtain⟨d,p⟩:=ex (w.heap.size+1);rw[<- p] at o u;go_wp2_with fail
 try rw[L]
 try rw[<- p]
 clear L;have ae:=ZB p;clear p
 go_loopw [4] (fun i wr=>∃ (k:Nat) (S:Value) (h:List Value),k<=n/\i=.int .i64 (k:Nat)/\Blk wr d 264 #[S,zn,.slice (some w.heap.size) n n,ii (-1),.bool false,zz,zn] /\
  wr.ownsRow w.heap.size 66 1 S k h/\wr.ownsRow w.heap.size 4 1 (.slice (some w.heap.size) n n) n (List.replicate n (.bool false))/\Hid (∀ v∈h,wr.ownsRow w.heap.size 5 1 v 64 (bys (List.replicate 64 0)))/\kz w wr) (fun i _=>n-(intOf i).toNat)
 case atStart=>exact⟨0,.slice none 0 0,[],AP _,rfl,o,AZ _ _ _ _,J,(by show ∀ v∈([]:List Value),_;intro v b;cases b),I⟩
 clear o J I;obtain⟨k,S,h,hk,rfl,f,j,M,N,q⟩:=hrel;obtain⟨U,af,c2,ag,c4,c5,c6⟩:=VH f;by_cases ah:k<n
 . have ai:((k:Nat):Int)<(n:Nat):=Z
   go_wp2_with fail;refine ZT (fun w'=>cl w' (aq d 0) S) 8 [[0,1,2,3,4],[5],[6],[7]] U ?_;simp only[PI];iterate 5 refine wG ?_
   refine JB rq fun K l=>?_;refine elem8N.wp1_make _ _ rfl .i64 .i64 64 rfl rfl Z Z ?_;intro w2 V X Y a0 a1;obtain rfl:V=wr.heap.size:=X;clear Y;have O:kz wr w2:=kq.drew.tO a1;have a2:w2.ownsRow w.heap.size 5 1 (.slice (some (aq wr.heap.size 0)) 64 64) 64 (bys (List.replicate 64 0)):=JN (e:=5) (s:=1) (z:=.int .u8 0) a0 Z q.size Z (by simp[bys,by8]) rfl;refine l _ _ ((VH (f.kO O)).1) ?_
   try simp only[Act.put,PU]
   refine JB rq fun K l=>?_;go_wp2_with fail;have a3:=XS w2 (Value.slice (some (aq wr.heap.size 0)) 64 64) 66;have c:kz wr (w2.alloc (.cells #[Value.slice (some (aq wr.heap.size 0)) 64 64] 66)):=O.alloc _;have a4:=XE a2 (.cells #[Value.slice (some (aq wr.heap.size 0)) 64 64] 66);generalize w2.alloc (.cells #[Value.slice (some (aq wr.heap.size 0)) 64 64] 66)=w3 at *;generalize w2.heap.size=n4 at *;refine l _ _ ((VH (f.kO c)).1) ?_
   try simp only[Act.put,PU]
   refine JB rq fun K l=>?_;refine elemRows.wp1_app (.tmp 21) (.tmp 23) rq w.heap.size S k h rq (QB j c) (some n4) 1 1 [Value.slice (some (aq wr.heap.size 0)) 64 64] rq a3 (by simp[Value.oneCell']) Z Z (AB q.size c.size) ?_;intro S' m P y a5 _;have Q:d∉S.ownBlock.toList:=fun a=>own_blk_ne j f (by decide) (uq a);have r:=(f.kO c).keep y Q;refine l _ _ ((VH r).1) ?_
   try simp only[Act.put,PU]
   refine VB ?_;have f0:=r.frozen 0;have j0:=(VH r).1;have a6:=r.set 0 S';have A:Keep [d] m (m.setCell (aq d 0) S'):=kq.sc d 0
   have a7:d∉S'.ownBlock.toList:=fun a=>by
    rcases a5 with e | e
    . rw[e] at a;exact Q a
    rw[e] at a;simp at a;have:=f.lt;have:=c.size;omega
   have B:∀ {e:TypeId} {s n:Nat} {v:Value} {xs:List Value},w3.ownsRow w.heap.size e s v n xs->e≠66->e≠264->(m.setCell (aq d 0) S').ownsRow w.heap.size e s v n xs:=fun b he a8=>
    KA (KA b y (fun x g a=>own_ne b (QB j c) he g (uq a))) A (fun x g a=>by simp at a;subst a;exact own_blk_ne b (f.kO c) a8 g)
   have a9:=B (QB M c) (by decide) (by decide);have aa:=B a4 (by decide) (by decide);have ab:Hid (∀ v∈h,(m.setCell (aq d 0) S').ownsRow w.heap.size 5 1 v 64 (bys (List.replicate 64 0))):=fun v b=>B (QB (ZA N v b) c) (by decide) (by decide);have ac:=KA P A (fun x g a=>by simp at a;subst a;exact a7 (uq g));have ad:kz w (m.setCell (aq d 0) S'):=((q.tO c).trans y (fun x g=>.inr (own_mem j g).1)).trans A iq;obtain⟨aj,sc,rfl,_⟩:=XB P;go_wp2_with fail;go_roundw
   case rel=>exact⟨k+1,_,_,Z,by go_num,uq a6,ac,a9,fun v b=>by
    simp only[AD,Ag] at b;rcases b with b | rfl
    . exact ZA ab v b
    exact aa,ad⟩
   case measure=>simp[intOf];omega
 obtain rfl:n=k:=Z
 go_wp2_with fail;go_ret;obtain⟨sg,sc,rfl,_⟩:=YD j C;exact⟨d,_,rfl,⟨_,_,⟨n,h,[],[],0⟩,⟨f,j,AZ _ _ _ _,M,AZ _ _ _ _,by simp[Value.ownBlock],rfl,u,C,R,sq,⟨AP _,AP _⟩⟩,rfl,rfl,rfl,rfl,ZA N⟩,q⟩
theorem Xz (a b:Value) (W:World):(Instr.index 380 (.agg #[a,b]) (.int .i64 0)).run prog W=.ok a W:=by
 simp[Instr.index,CE underlying380,asIntOf,go_sem]
theorem KAS (a b:Value) (W:World):(Instr.index 380 (.agg #[a,b]) (.int .i64 1)).run prog W=.ok b W:=by
 simp[Instr.index,CE underlying380,asIntOf,go_sem]
def ZP (I:PImage) (b old a:Nat):PImage:=
 if I.bl.getD b 0=(old:Nat) then { I with bl:=I.bl.set b a,bd:=QH I.bl I.bd b a } else { I with ol:=I.ol.set b a,od:=QH I.ol I.od b a }
theorem ZBP {w:World} {base m:Nat} {F:List Nat} {I:PImage} (h:ImageAt w base m F I) (b f a:Nat) (n:b<I.bl.length) (Q:1<=f) (R:1<=a/\a<4096) (p:I.bl.getD b 0=(f:Nat)\/I.ol.getD b 0=(f:Nat)) :
 Calls prog 216 #[pq m,b,f,a] w fun e w'=>e=.returned (.bool true)/\ImageAt w' base m F (ZP I b f a)/\Keep F w w':=by
 obtain⟨p1,p2,F1,F2,h⟩:=h;have q:b<I.ol.length:=by rw[<- h.ok.1];exact n
 have A:=ZAJ w base m p1 p2 F F1 F2 I h b 1 (AG _) Z;obtain⟨B,C⟩:=R;have V:¬ ((f:Nat):Int)<1:=Z
 have X:¬ ((a:Nat):Int)<1:=Z
 have Y:¬ ((4096:Int)<=(a:Nat)):=Z
 have o:=fun W (d:kz w W)=>Jk W base p1 F1 I.bl I.bd (h.b.kO d) b n;have r:=fun W (d:kz w W)=>Jk W base p2 F2 I.ol I.od (h.o.kO d) b q;have s:=fun W (d:kz w W)=>JAG W base p1 F1 I.bl I.bd (h.b.kO d) b n a;have t:=fun W (d:kz w W)=>JAG W base p2 F2 I.ol I.od (h.o.kO d) b q a;have g:kz w w.drew:=kq.drew;have u:I.bl.getD b 0=I.bl[b]:=Ze n;have D:I.ol.getD b 0=I.ol[b]:=Ze q;rw[u,D] at p;have E:ZP I b f a=if I.bl[b]=(f:Nat) then { I with bl:=I.bl.set b a,bd:=QH I.bl I.bd b a } else { I with ol:=I.ol.set b a,od:=QH I.ol I.od b a }:=by unfold ZP;rw[u]
 rw[E];have G:Hid (1<=a/\a<4096):=⟨B,C⟩;clear u D E B C Q;obtain⟨H,J⟩:=h.cells;generalize I.bl[b]=x at *;generalize I.ol[b]=y at *
 have K:∀ W:World,PagedAt W base p1 F1 (I.bl.set b a) (QH I.bl I.bd b a)->Keep F1 w W->ImageAt W base m F { I with bl:=I.bl.set b a,bd:=QH I.bl I.bd b a }/\Keep F w W:=fun W v d=>
  ⟨⟨p1,p2,F1,F2,h.setB v d sq (fun x c=>by
    have:=ZA G;rcases AS c with c | rfl
    . exact h.ok.2.1 x c
    omega)⟩,d.sub h.subB⟩
 have L:∀ W:World,PagedAt W base p2 F2 (I.ol.set b a) (QH I.ol I.od b a)->Keep F2 w W->ImageAt W base m F { I with ol:=I.ol.set b a,od:=QH I.ol I.od b a }/\Keep F w W:=fun W v d=>
  ⟨⟨p1,p2,F1,F2,h.setO v d sq (fun x c=>by
    have:=ZA G;rcases AS c with c | rfl
    . exact h.ok.2.2 x c
    omega)⟩,d.sub h.subO⟩
 have S:=ZB K;have T:=ZB L;clear K L;by_cases c:x=(f:Nat)
 . rw[AJ c]
   have a0:(x == ((f:Nat):Int))=true:=by simp[c]
   go_enter func216,ntmps216;go_wp2_with (go_at_call 328;refine A.mono ?_;rintro e w' ⟨rfl,rfl⟩);refine ZT (fun W=>cl W m (pq p1)/\cl W (aq m 1) (pq p2)) 10 [[0,1,2,3,4,5,6,7,8,9]] ⟨H,J⟩ ?_;simp only[PI];iterate 10 refine wG ?_
   refine VB ?_
   go_wp2
   go_loopw [38] (fun i wr=>(i=.int .i64 0/\wr=w.drew)) (fun i _=>2-(intOf i).toNat)
   case atStart=>exact⟨rfl,rfl⟩
   obtain⟨rfl,rfl⟩:=hrel;have j:=o _ g;have M:=s _ g;clear o r s t;have N:=fun W=>Xz (.pointer (some p1)) (.pointer (some p2)) W
   go_wp2_with (first
    | (go_at_call 235;refine j.mono ?_;clear j;rintro e w' ⟨rfl,rfl⟩)
    | (go_at_call 241;refine M.mono ?_;clear M;rintro e w2 ⟨rfl,z,l⟩))
   go_ret;exact⟨rfl,(ZA S) _ z (g.zero.trans l (fun x c=>.inl c))⟩
 rw[AF c]
 have U:y=(f:Nat):=p.resolve_left c;clear p;subst U;go_enter func216,ntmps216;go_wp2_with (go_at_call 328;refine A.mono ?_;rintro e w' ⟨rfl,rfl⟩);refine ZT (fun W=>cl W m (pq p1)/\cl W (aq m 1) (pq p2)) 10 [[0,1,2,3,4,5,6,7,8,9]] ⟨H,J⟩ ?_;simp only[PI];iterate 10 refine wG ?_
 refine VB ?_
 go_wp2
 go_loopw [38] (fun i wr=>∃ k:Nat,k<=1/\i=.int .i64 (k:Nat)/\wr=w.drew) (fun i _=>2-(intOf i).toNat)
 case atStart=>exact⟨0,Z,rfl,rfl⟩
 obtain⟨k,d,rfl,rfl⟩:=hrel;have j:=o _ g;have O:=r _ g;have P:=t _ g;clear o r s t;have l:k=0\/k=1:=Z
 rcases l with rfl | rfl
 . have N:=fun W=>Xz (.pointer (some p1)) (.pointer (some p2)) W
   go_wp2_with (go_at_call 235;refine j.mono ?_;clear j;rintro e w' ⟨rfl,rfl⟩);go_roundw;case rel=>exact⟨1,Z,by go_num,by first | trivial | rfl⟩
   case measure=>simp[intOf]
 have N:=fun W=>KAS (.pointer (some p1)) (.pointer (some p2)) W
 go_wp2_with (first
  | (go_at_call 235;refine O.mono ?_;clear O;rintro e w' ⟨rfl,rfl⟩)
  | (go_at_call 241;refine P.mono ?_;clear P;rintro e w2 ⟨rfl,z,l⟩))
 go_ret;exact⟨rfl,(ZA T) _ z (g.zero.trans l (fun x c=>.inl c))⟩