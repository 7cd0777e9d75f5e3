/- Lemmas of the proof, with their conditions. -/
import Derived.Test.YtfedaknhecbehaaGreatM31
namespace Go.Proofs.YtfedaknhecbehaaGreat
open Tryz Go.RowKit Go.Shelf
variable {w:World} {s d g B base sg k j t p b n e m lo c c' N b6 lg lc:Nat} {q:PPos} {F lv' Fd pre:List Nat} {D D':PDisk} {a x:Int} {S S':PS} {us us':List (Nat×Nat)} {W':PW} {i:PItem} {bs:List UInt8} {l:List Int} {ds:List Bool} {sv:Value} {ov:Bool}
set_option linter.all false
set_option maxHeartbeats 4000000
set_option maxRecDepth 100000
section
open Go.RowKit Go.Shelf
attribute [local go_sem] AW
theorem Yx (p:PPos) (hs:YM w s d g sg q) (U:GeomAt w g B) (ae:DiskAt w base d F D) (af:D.off=false) (hn:D.n=198+4*pgs B) (hf:∀ k,k<D.n->D.faults[k]? = some false)
 (a6:p.seg<=7) (V:p.off=24\/p.off<24/\KT (Go.Proofs.YtfedaknhecbehaaGreat.seg 64 D.now (JC B p.seg+p.off))) (ag:s∉F) (a7:s≠g) :
 Calls prog 383 #[pq s,.agg #[ii p.seg,ii p.off,ii p.lsn,ii p.prev,ii p.mount]] w fun e w'=>e=.returned (.tuple #[.agg #[zz,zz,zz,zn,zn],.agg #[zz,zz,zz,zz,zz],.bool false])/\YM w' s d g sg q/\Keep [s] w w':=by
 have X:=hs.lt;have ap:=(ZD U.pos U.few).2;have ah:=fun W (L:Keep [s] w W)=>ConfigG_is W g B (U.keep L (by simpa using fun e=>a7 e.symm));have a0:∀ W,Keep [s] w W->cr 34 #[pq g,ii p.seg] W (ii ((JC B p.seg:Nat))):=fun W L=>Zg W g B (U.keep L (by simpa using fun e=>a7 e.symm)) p.seg a6;have Y:=fun W (L:Keep [s] w W) (b:YM W s d g sg q) (ho:p.off<24)=>Km b (ae.keep L (fun x hx hm=>by simp at hm;subst hm;exact ag hx)) af (JC B p.seg+p.off) (by unfold JC;omega) (hf _ (by unfold JC;omega));have ar:=fun W=>KE (P:=prog) underlying28 2 rfl isAgg3 #[ii B,ii 8,ii 24] rfl W;obtain⟨M,j,a8,a9,aa⟩:=p;obtain⟨a,ha⟩:=ex (JC B M+j);obtain⟨K,f⟩:=ex (JC B M);simp only at a0 Y V a6;have ab:j<24->IntKind.i64.wrap (((K:Nat):Int)+(j:Nat))=(a:Nat):=fun ho=>by rw[AI];rw[f,ha];unfold JC;omega
 rw[<- ha] at Y V;rw[<- f] at a0;have b:=OneSt.start (p:=⟨M,j,a8,a9,aa⟩) hs;have ai:=ZB Y;clear ha f hs Y;go_enter func383,ntmps383;go_wp2_with fail;generalize (((w.alloc (.cells #[ii M,ii j,ii a8,ii a9,ii aa] 49)).alloc (.cells #[zz,zz,zz,zn,zn] 280)).alloc (.cells #[zz,zz,zz,zz,zz] 49))=w1 at *;replace b:=b.kO (Keep.refl [] w1).drew;obtain⟨p0,h,G,H,I⟩:=cells5 b.pos;have i:=b.c1;refine ZT (fun W=>cl W (aq s 1) (pq g)/\cl W (aq w.heap.size 1) (ii j)) 8 [[0,1,2,3,4,5],[6,7]] ⟨i,h⟩ ?_;simp only[PI];iterate 6 refine wG ?_
 refine JB rq fun K f=>?_;go_wp2_with (refine(ah _ b.keep).mono ?_;rintro e w2 ⟨rfl,a1⟩);replace b:=b.kO a1;clear p0 h G H I i;obtain⟨p0,h,G,H,I⟩:=cells5 b.pos;have i:=b.c1;refine f _ _ (⟨i,h⟩) ?_
 iterate 1 refine wG ?_
 refine VB ?_;rcases V with V | ⟨ho,hz⟩
 . have aj:(24:Int)<=(j:Nat):=Z
   go_wp2_with fail;replace b:=b.kO (Keep.refl [] w2).drew;clear p0 h G H I i a1;obtain⟨l,m,n,o,r⟩:=VD b.rcd;obtain⟨t,y,z,A,C⟩:=cells5 b.nxt;refine ZT (fun W=>cl W ⟨w.heap.size+1,0,none⟩ zz/\cl W ⟨w.heap.size+1,1,none⟩ zz/\cl W ⟨w.heap.size+1,2,none⟩ zz/\cl W ⟨w.heap.size+1,3,none⟩ zn/\cl W ⟨w.heap.size+1,4,none⟩ zn/\cl W ⟨w.heap.size+1+1,0,none⟩ zz/\cl W ⟨w.heap.size+1+1,1,none⟩ zz/\cl W ⟨w.heap.size+1+1,2,none⟩ zz/\cl W ⟨w.heap.size+1+1,3,none⟩ zz/\cl W ⟨w.heap.size+1+1,4,none⟩ zz) 3 [[0,1],[2]] ⟨l,m,n,o,r,t,y,z,A,C⟩ ?_;simp only[PI];iterate 2 refine wG ?_
   refine JB rq fun K f=>?_;generalize w2.drew=wa at *;have a2:=b.rcd.lt;have N:=b.rcd.frozen 0;have O:=b.rcd.frozen 1;have Q:=b.rcd.frozen 2;have R:=b.rcd.frozen 3;have S:=b.rcd.frozen 4;go_wp2_with fail;obtain⟨T,E⟩:=YAk b.rcd (.int .i64 0) (.int .i64 0) (.int .i64 0) (.slice none 0 0) (.slice none 0 0);have c:=b.nxt.keep E sq;have a3:=Blk.keep b.sc E (by have:=X;simp;omega);have a4:=b.keep.trans E iq;clear l m n o r t y z A C N O Q R S E a2;obtain⟨l,m,n,o,r⟩:=VD T;obtain⟨t,y,z,A,C⟩:=cells5 c;refine f _ _ (⟨l,m,n,o,r,t,y,z,A,C⟩) ?_
   try simp only[Act.put,PU]
   refine VB ?_;generalize (((((wa.setCell ⟨w.heap.size+1,0,none⟩ (.int .i64 0)).setCell ⟨w.heap.size+1,1,none⟩ (.int .i64 0)).setCell ⟨w.heap.size+1,2,none⟩ (.int .i64 0)).setCell ⟨w.heap.size+1,3,none⟩ (.slice none 0 0)).setCell ⟨w.heap.size+1,4,none⟩ (.slice none 0 0))=wb at *;have N:=c.frozen 0;have O:=c.frozen 1;have Q:=c.frozen 2;have R:=c.frozen 3;have S:=c.frozen 4;have ak:=c.lt;go_wp2_with fail;obtain⟨a5,J⟩:=YAk c (.int .i64 0) (.int .i64 0) (.int .i64 0) (.int .i64 0) (.int .i64 0);obtain⟨y0,y1,y2,y3,y4⟩:=cells5 a5;obtain⟨x0,x1,x2,x3,x4⟩:=VD (T.keep J sq)
   exact Ac (v:=.tuple #[.agg #[zz,zz,zz,zn,zn],.agg #[zz,zz,zz,zz,zz],.bool false])
    (by simp[results,results383,go_sem,x0,x1,x2,x3,x4,y0,y1,y2,y3,y4]) rfl ⟨rfl,Blk.keep a3 J (by have:=X;simp;omega),a4.trans J iq⟩
 have aj:((j:Nat):Int)<24:=Z
 replace ab:=ab ho;go_wp2_with fail;replace b:=b.kO (Keep.refl [] w2).drew;clear p0 h G H I i a1;obtain⟨p0,h,G,H,I⟩:=cells5 b.pos;have i:=b.c1;refine ZT (fun W=>cl W (aq s 1) (pq g)/\cl W w.heap.size (ii M)/\cl W (aq w.heap.size 1) (ii j)) 9 [[0,1,2,3,4,5,7,8],[6]] ⟨i,p0,h⟩ ?_;simp only[PI];iterate 8 refine wG ?_
 refine JB rq fun K f=>?_;go_wp2_with (refine(a0 _ b.keep).mono ?_;rintro e w4 ⟨rfl,al⟩);replace b:=b.kO al;clear p0 h G H I i;obtain⟨p0,h,G,H,I⟩:=cells5 b.pos;have i:=b.c1;refine f _ _ (⟨i,p0,h⟩) ?_
 try simp only[Act.put,PU]
 refine VB ?_;have ac:=ZA ai _ b.keep b.sc ho;go_wp2_with (refine ac.mono ?_;clear ac;rintro e w5 ⟨u,rfl,hu,am,an⟩;obtain⟨au,uc,rfl,_⟩:=XB hu);replace b:=b.keepL an am sq;have ad:=KAx uc (Rd.of_own hu) hz;go_wp2_with (refine ad.mono ?_;clear ad;rintro e w6 ⟨rfl,ao⟩);replace b:=(b.kO ao).kO (Keep.refl [] w6).drew;refine ZT (fun _=>True) 17 [[0,1,2,3,4,5,6,7,8,9,10,11,12,13,14],[15,16]] trivial ?_;simp only[PI];iterate 7 refine wG ?_
 iterate 8 (refine Xm rq ?_;simp only[Act.put,PU])
 refine YX rq trivial ?_;simp only[Act.put,PU];iterate 1 (refine Xm rq ?_;simp only[Act.put,PU])
 refine VB ?_;go_wp2_with fail;replace b:=b.kO (Keep.refl [] _).drew;obtain⟨l,m,n,o,r⟩:=VD b.rcd;obtain⟨t,y,z,A,C⟩:=cells5 b.nxt;refine ZT (fun W=>cl W ⟨w.heap.size+1,0,none⟩ zz/\cl W ⟨w.heap.size+1,1,none⟩ zz/\cl W ⟨w.heap.size+1,2,none⟩ zz/\cl W ⟨w.heap.size+1,3,none⟩ zn/\cl W ⟨w.heap.size+1,4,none⟩ zn/\cl W ⟨w.heap.size+1+1,0,none⟩ zz/\cl W ⟨w.heap.size+1+1,1,none⟩ zz/\cl W ⟨w.heap.size+1+1,2,none⟩ zz/\cl W ⟨w.heap.size+1+1,3,none⟩ zz/\cl W ⟨w.heap.size+1+1,4,none⟩ zz) 3 [[0,1],[2]] ⟨l,m,n,o,r,t,y,z,A,C⟩ ?_;simp only[PI];iterate 2 refine wG ?_
 refine JB rq fun K f=>?_;generalize w6.drew.drew=wa at *;have a2:=b.rcd.lt;have N:=b.rcd.frozen 0;have O:=b.rcd.frozen 1;have Q:=b.rcd.frozen 2;have R:=b.rcd.frozen 3;have S:=b.rcd.frozen 4;go_wp2_with fail;obtain⟨T,E⟩:=YAk b.rcd (.int .i64 0) (.int .i64 0) (.int .i64 0) (.slice none 0 0) (.slice none 0 0);have c:=b.nxt.keep E sq;have a3:=Blk.keep b.sc E (by have:=X;simp;omega);have a4:=b.keep.trans E iq;clear l m n o r t y z A C N O Q R S E a2;obtain⟨l,m,n,o,r⟩:=VD T;obtain⟨t,y,z,A,C⟩:=cells5 c;refine f _ _ (⟨l,m,n,o,r,t,y,z,A,C⟩) ?_
 try simp only[Act.put,PU]
 refine VB ?_;generalize (((((wa.setCell ⟨w.heap.size+1,0,none⟩ (.int .i64 0)).setCell ⟨w.heap.size+1,1,none⟩ (.int .i64 0)).setCell ⟨w.heap.size+1,2,none⟩ (.int .i64 0)).setCell ⟨w.heap.size+1,3,none⟩ (.slice none 0 0)).setCell ⟨w.heap.size+1,4,none⟩ (.slice none 0 0))=wb at *;have N:=c.frozen 0;have O:=c.frozen 1;have Q:=c.frozen 2;have R:=c.frozen 3;have S:=c.frozen 4;have ak:=c.lt;go_wp2_with fail;obtain⟨a5,J⟩:=YAk c (.int .i64 0) (.int .i64 0) (.int .i64 0) (.int .i64 0) (.int .i64 0);obtain⟨y0,y1,y2,y3,y4⟩:=cells5 a5;obtain⟨x0,x1,x2,x3,x4⟩:=VD (T.keep J sq)
 exact Ac (v:=.tuple #[.agg #[zz,zz,zz,zn,zn],.agg #[zz,zz,zz,zz,zz],.bool false])
  (by simp[results,results383,go_sem,x0,x1,x2,x3,x4,y0,y1,y2,y3,y4]) rfl ⟨rfl,Blk.keep a3 J (by have:=X;simp;omega),a4.trans J iq⟩
end
section
open Go.RowKit Go.Shelf
attribute [local go_sem] AW
theorem VAW (p:PPos) {R:PRec} (b:YM w s d g sg q) (c:GeomAt w g B) (h:DiskAt w base d F D) (f:D.off=false) (i:D.n=198+4*pgs B) (j:∀ k,k<D.n->D.faults[k]? = some false)
 (l:p.seg<=7) (o:p.off<24) (a:Elder D (JC B p.seg+p.off) (24-p.off) p.lsn R) (m:s∉F) (n:s≠g) :
 Calls prog 383 #[pq s,.agg #[ii p.seg,ii p.off,ii p.lsn,ii p.prev,ii p.mount]] w fun e w'=>e=.returned (.tuple #[.agg #[zz,zz,zz,zn,zn],.agg #[zz,zz,zz,zz,zz],.bool false])/\YM w' s d g sg q/\Keep [s] w w':=by
 refine(Zz p b c h f i j l a.may (by have:=a.room;omega) a.bytes (.inr (by have:=a.lsn;omega)) m n).mono ?_;rintro e w' (⟨h,_⟩ | ⟨_,h⟩)
 . exact absurd h (by have:=a.lsn;omega)
 exact h
theorem VAj (p:PPos) (b:YM w s d g sg q) (c:GeomAt w g B) (h:DiskAt w base d F D) (f:D.off=false) (i:D.n=198+4*pgs B) (j:∀ k,k<D.n->D.faults[k]? = some false)
 (l:p.seg<=7) (a:p.off=24\/p.off<24/\Stale D (JC B p.seg+p.off) (24-p.off) p.lsn) (m:s∉F) (n:s≠g) :
 Calls prog 383 #[pq s,.agg #[ii p.seg,ii p.off,ii p.lsn,ii p.prev,ii p.mount]] w fun e w'=>e=.returned (.tuple #[.agg #[zz,zz,zz,zn,zn],.agg #[zz,zz,zz,zz,zz],.bool false])/\YM w' s d g sg q/\Keep [s] w w':=by
 rcases a with a | ⟨o,a | ⟨R,a⟩⟩
 . exact Yx p b c h f i j l (.inl a) m n
 . exact Yx p b c h f i j l (.inr ⟨o,a⟩) m n
 exact VAW p b c h f i j l o a m n
end
def QJ (B s:Nat) (a:Int):Bool:=decide (0<a) && ((a.toNat-(6+4*pgs B)) / 24 == s)
theorem Xv (h:QJ B s a=true):0<a/\(a.toNat-(6+4*pgs B)) / 24=s:=by
 simpa [QJ] using h
theorem XK (h:a<=0):QJ B s a=false:=by
 unfold QJ;rw[AU Z];rfl
def ZN (B:Nat) (I:PImage) (s:Nat):Nat:=I.bl.countP (QJ B s)+I.ol.countP (QJ B s)
structure LiveOk (B:Nat) (lv:List Nat) (I:PImage):Prop where
 len:lv.length=8
 live:∀ s<8,lv.getD s 0=ZN B I s
 diff:∀ i,0<I.ol.getD i 0->I.ol.getD i 0≠I.bl.getD i 0
structure Ext (B:Nat) (S:PS):Prop where
 segs:VW S.us S.W.pos.seg
 liv:LiveOk B S.lv S.I
 slot:S.slot<=1
 lie0:∀ x∈S.lie0,x<=1
 lie1:∀ x∈S.lie1,x<=1
theorem Zk (lv:List Nat) (s:Nat) (z:Int):(ZO lv s z).length=lv.length:=by simp[ZO]
theorem VAf (lv:List Nat) (s k:Nat) (b:lv.getD s 0<=1000000) (a:s<lv.length):(ZO lv s 1).getD k 0=lv.getD k 0+if k=s then 1 else 0:=by
 unfold ZO;rw[AA,BW];by_cases h:k=s
 . subst h
   rw[AJ rfl,AJ a,AJ rfl,AF Z];simp only[Cp];omega
 rw[AF Z,AF h,<- AA];rfl
theorem ZAO (lv:List Nat) (s k:Nat) (a:k<lv.length) (b:lv.getD s 0<=1000000):(ZO lv s (-1)).getD k 0=lv.getD k 0-if s=k then 1 else 0:=by
 unfold ZO;rw[AA,BW];by_cases h:s=k
 . subst h
   rw[AJ rfl,AJ a,AJ rfl,AF Z];simp only[Cp];omega
 rw[AF Z,AF h,<- AA];rfl
theorem JAM (zs:List Int) (lv:List Nat) (c:lv.length=8) (b:∀ k,lv.getD k 0<=1000000) :
 (zs.foldl (fun lv x=>if 0<x then ZO lv ((x.toNat-(6+4*pgs B)) / 24) (-1) else lv) lv).length=8/\∀ k<8,(zs.foldl (fun lv x=>if 0<x then ZO lv ((x.toNat-(6+4*pgs B)) / 24) (-1) else lv) lv).getD k 0=lv.getD k 0-zs.countP (QJ B k):=by
 induction zs generalizing lv with
 | nil=>exact⟨c,fun k a=>sq⟩
 | cons z zs ih=>
   simp only[List.foldl_cons];by_cases d:0<z
   . rw[AJ d]
     have g:=ZAO lv ((z.toNat-(6+4*pgs B)) / 24)
     obtain⟨e,f⟩:=ih (ZO lv ((z.toNat-(6+4*pgs B)) / 24) (-1)) (by rw[Zk];exact c) (fun k=>by
      by_cases a:k<lv.length
      . rw[g k a (b _)];have:=b k;omega
      rw[AA,Bc (by rw[Zk];omega)];simp)
     refine⟨e,fun k a=>?_⟩;rw[f k a,g k Z (b _),Be];unfold QJ;rw[AH d];simp only[Bool.true_and,CK]
     split <;> omega
   rw[AF d]
   obtain⟨e,f⟩:=ih lv c b;refine⟨e,fun k a=>?_⟩;rw[f k a,Be,XK Z];simp
theorem KX {lv:List Nat} {a:Nat} {zs:List Int} (g:lv.length=8) (b:∀ k,lv.getD k 0<=1000) (l:(a-(6+4*pgs B)) / 24<8) :
 (Xe B lv a zs).length=8/\∀ k<8,(Xe B lv a zs).getD k 0=lv.getD k 0+(if QJ B k (a:Nat) then 1 else 0)-zs.countP (QJ B k):=by
 unfold Xe;by_cases i:a=0
 . subst i
   rw[AJ rfl];obtain⟨c,d⟩:=JAM (B:=B) zs lv g (fun k=>by have:=b k;omega);refine⟨c,fun k f=>?_⟩;rw[d k f,XK Z];simp
 rw[AF i]
 have j:=fun k=>VAf lv ((a-(6+4*pgs B)) / 24) k (by have:=b ((a-(6+4*pgs B)) / 24);omega) Z;obtain⟨c,d⟩:=JAM (B:=B) zs (ZO lv ((a-(6+4*pgs B)) / 24) 1) (by rw[Zk];exact g) (fun k=>by rw[j];have:=b k;split <;> omega);refine⟨c,fun k f=>?_⟩;rw[d k f,j];unfold QJ;rw[AH Z];simp only[Bool.true_and,CK,Ba]
 congr 2
 by_cases e:k=(a-(6+4*pgs B)) / 24
 . rw[AJ e,AJ e.symm]
 rw[AF e,AF (fun h=>e h.symm)]
theorem XBP (b:Good B S k j) (d:(S.us.getD s (0,0)).1=0):ZN B S.I s=0:=by
 have c:∀ x:Int,x = -1\/RefOk B S x->QJ B s x=false:=by
  intro x a;by_cases h:QJ B s x=true
  . obtain⟨f,e⟩:=Xv h
    rcases a with rfl | rfl | ⟨_,hl⟩
    . omega
    . omega
    have:=hl.used
    rw[e] at this;exact absurd d this
  simpa using h
 unfold ZN;rw[DJ.2 (fun x a=>by rw[c x (.inr (b.brefs x a))];simp),DJ.2 (fun x a=>by rw[c x (b.orefs x a)];simp)]
theorem ZAx {I:PImage} (b:a∈I.bl\/a∈I.ol) (d:0<a):0<ZN B I ((a.toNat-(6+4*pgs B)) / 24):=by
 have c:QJ B ((a.toNat-(6+4*pgs B)) / 24) a=true:=by simp[QJ,d]
 unfold ZN;rcases b with b | b
 . have:=CC.2 ⟨a,b,c⟩;omega
 have:=CC.2 ⟨a,b,c⟩;omega
theorem JBe (a:Good B S k j) (s:Nat):ZN B S.I s<=128:=by
 unfold ZN;have b:=Ca (p:=QJ B s) (l:=S.I.bl);have c:=Ca (p:=QJ B s) (l:=S.I.ol);have:=a.bl;have:=a.ol;have:=a.b64;omega
theorem LiveOk.small (h:LiveOk B S.lv S.I) (a:Good B S k j) (s:Nat):S.lv.getD s 0<=1000:=by
 by_cases b:s<8
 . rw[h.live s b];have:=JBe a s;omega
 rw[AA,Bc (by have:=h.len;omega)];simp
theorem YAP {x:Nat} (h:VW us s) (f:x<=2147483647):VW (KG us t x) s:=by
 obtain⟨g,c,d⟩:=h;unfold KG;refine⟨uq g,fun u b=>?_,fun k a=>?_⟩
 . rcases AS b with b | rfl
   . exact c u b
   refine⟨?_,f⟩
   simp only;by_cases i:t<us.length
   . rw[XI i];exact(c _ (AN _)).1
   rw[AA,Bc Z];simp
 rw[List.getElem_set]
 split
 . rename_i e
   subst e;simp only[Bl] at a;rw[XI a];exact d t a
 exact d k (uq a)
theorem Emitted.segs {W:PW} (a:Emitted B D us W D' us' W') (h:VW us s) (b:W.pos.lsn<=2147483647):VW us' s:=by
 rcases a with⟨_,_,rfl,_⟩ | ⟨_,c,d,e,f,_,_,_,_,rfl,_⟩
 . exact h
 exact YAP h b
theorem Added.extG {a:Nat} (C:Added B S.D S.us S.lv S.W i bs D' us' lv' W' a) (d:Good B S k j) (D:XO S.us S.W (JM i)) (Q:j<=100000) (c:Ext B S) :
 VW us' W'.pos.seg/\LiveOk B lv' S.I:=by
 obtain⟨R,E,rfl,T⟩:=C;have U:=d.cap.lsn;have V:JM i<=1:=by unfold JM;split <;> omega
 rcases E with⟨l,rfl,rfl,rfl,rfl⟩ | ⟨t,l,f,rfl⟩ | ⟨t,l,rfl,W,m,F,f,G⟩
 . exact⟨c.segs,c.liv⟩
 . refine⟨?_,c.liv⟩
   have n:=f.segs c.segs Z;obtain⟨_,_,H,_⟩:=d.cap.emitted f;simp only;rw[H];exact n
 have X:=D t l
 obtain⟨v,w⟩:=VL S.us Z;have I:=d.cap.ul;have Y:=d.cap.seg;have J:=c.liv.len;refine⟨?_,⟨uq J,fun s n=>?_,c.liv.diff⟩⟩
 . obtain⟨rs,hd,a0,t1,t2,t3,rfl,rfl,rfl⟩:=G
   obtain⟨f1,f2,K,f4,f5,L,f7,f8,f9,o,a1,a2⟩:=f.facts d.cap.ok;simp only;obtain⟨h1,y,M⟩:=c.segs;have z:m.length=8:=by rcases o with rfl | rfl <;> simpa using I
   have a3:F.pos.lsn<=S.W.pos.lsn+1:=L
   have N:∀ q<8,(m.getD q (0,0)).1=((VE S.us (XC S.us) 1).getD q (0,0)).1:=by
    intro q p;rcases o with rfl | rfl
    . rfl
    rw[XG]
   have O:S.W.pos.seg≠XC S.us:=by
    intro e;have:=d.cap.opn;rw[e,w] at this;omega
   have A:∀ u∈m,u.1<=2/\u.2<=2147483647:=by
    have r:∀ u∈VE S.us (XC S.us) 1,u.1<=2/\u.2<=2147483647:=by
     intro u b;unfold VE at b;rcases AS b with b | rfl
     . exact y u b
     refine⟨sq,?_⟩
     simp only;rw[XI v];exact(y _ (AN _)).2
    rcases o with rfl | rfl
    . exact r
    intro u b
    unfold KG at b;rcases AS b with b | rfl
    . exact r u b
    refine⟨?_,by simp only;omega⟩
    simp only;rw[XI (by simp[VE];omega)];exact(r _ (AN _)).1
   refine⟨by simp[VE,KG];exact z,?_,?_⟩
   . intro u b
     unfold VE at b;rcases AS b with b | rfl
     . unfold KG at b
       rcases AS b with b | rfl
       . exact A u b
       refine⟨?_,by simp only;omega⟩
       simp only;rw[XI Z];exact(A _ (AN _)).1
     refine⟨sq,?_⟩
     simp only;rw[XI (by simp[KG];omega)];unfold KG;rw[List.getElem_set_self];simp only;omega
   intro q p
   have P:q<8:=by simpa [VE,KG,z] using p
   rw[<- XI p,VF _ _ _ _ (by simp[KG];omega),XG,N q P,VF _ _ _ _ v];rw[K];by_cases e:q=S.W.pos.seg
   . rw[AJ e]
     subst e;constructor
     . intro h;omega
     intro h;exact absurd h O
   rw[AF e]
   by_cases g:q=XC S.us
   . rw[AJ g];simp[g]
   rw[AF g]
   rw[XI Z,M q Z];constructor
   . intro h;exact absurd h e
   intro h;exact absurd h g
 rw[AA,BW]
 split
 . rename_i e
   subst e;rw[AJ Z];exact(XBP d w).symm
 rw[<- AA]
 exact c.liv.live s n
theorem Added.ext {a:Nat} (c:Added B S.D S.us S.lv S.W i bs D' us' lv' W' a) (b:Good B S k j) (d:k<=50) (e:j<=100000) (f:Ext B S) :
 VW us' W'.pos.seg/\LiveOk B lv' S.I:=
 Added.extG c b (b.cap.frees d (by unfold JM;split <;> omega)) e f
theorem ZS {p:Int->Bool} {i:Nat} (hi:i<l.length):(l.set i a).countP p+(if p l[i] then 1 else 0)=l.countP p+if p a then 1 else 0:=by
 have:=List.countP_set (p:=p) (l:=l) (i:=i) (a:=a) hi
 have b:(if p l[i] then 1 else 0)<=l.countP p:=by
  split
  . exact CC.2 ⟨l[i],AN _,by assumption⟩
  omega
 omega
theorem Vf {z:Int} (h:0<x->x≠z):QJ B s (YH x z)=QJ B s x:=by
 unfold YH;by_cases b:0<x
 . rw[AF (h b),show max x 0=x from Z]
 rw[XK (a:=x) Z]
 split
 . exact XK Z
 exact XK Z
theorem Wrote.extG (h:Wrote B S b bs S') (c:Good B S k j) (n:XO S.us S.W (JM ⟨1,b,0,0⟩)) (u:j<=100000) (F:b<B) (d:Ext B S):Ext B S':=by
 obtain⟨D',us',v,W',a,o,rfl⟩:=h;obtain⟨f,g⟩:=o.extG c n u d;obtain⟨G,H,I,w,y⟩:=o.readsG c.cap n c.now c.many;obtain⟨q,J⟩:=y rfl;have K:0<a:=by have:=q.lo;omega
 have z:(a-(6+4*pgs B)) / 24<8:=by have:=q.hi;omega
 have L:=c.ol
 have r:∀ x:Int,x = -1\/RefOk B S x->0<x->x≠(a:Nat):=by
  intro x d t;rcases d with rfl | rfl | ⟨_,hy⟩
  . omega
  . omega
  have:=(w _ hy).2.2 rfl
  omega
 have A:=fun s=>LiveOk.small (S:={ S with lv:=v }) g ⟨c.cap,c.now,c.many,c.flt,c.flen,c.b1,c.b64,c.bl,c.ol,c.brefs,c.orefs,c.seq,c.epoch,c.done⟩ s;obtain⟨C,D⟩:=KX (B:=B) (zs:=[YH (S.I.ol.getD b 0) a]) g.len A z;refine⟨f,⟨C,fun s f=>?_,fun i hi=>?_⟩,d.slot,d.lie0,d.lie1⟩
 . rw[D s f,g.live s f]
   unfold ZN;simp only;have M:=ZS (p:=QJ B s) (l:=S.I.ol) (i:=b) (a:=(a:Nat)) Z;have E:S.I.ol.getD b 0=S.I.ol[b]:=Ze Z;rw[Be,DI,E,Vf (fun t=>r _ (c.orefs _ (AN _)) t)]
   have N:(if QJ B s S.I.ol[b] then 1 else 0)<=S.I.ol.countP (QJ B s):=by
    split
    . exact CC.2 ⟨S.I.ol[b],AN _,by assumption⟩
    omega
   omega
 simp only at hi ⊢
 rw[AA,BW] at hi ⊢
 split
 . rename_i e
   subst e;rw[AJ Z];simp only[Cp];intro m;have O:=c.bl;rw[Ze Z] at m;exact r _ (.inr (c.brefs _ (AN _))) (by rw[<- m];omega) m.symm
 rename_i e
 rw[AF e,<- AA] at hi;rw[<- AA];exact d.liv.diff i hi
theorem Wrote.ext (h:Wrote B S b bs S') (a:Good B S k j) (c:k<=50) (d:j<=100000) (e:b<B) (f:Ext B S):Ext B S':=
 Wrote.extG h a (a.cap.frees c (by unfold JM;split <;> omega)) d e f
theorem KAD (B s b n:Nat) (l:List Int) (ds:List Bool) (j:b+n<=l.length):(JG b n l ds).2.1.countP (QJ B s)+(JG b n l ds).1.countP (QJ B s)=l.countP (QJ B s):=by
 induction n with
 | zero=>simp[JG]
 | succ n ih=>
   rw[QU];unfold VR;simp only;have k:=(ZL b n l ds).1;have c:b+n<(JG b n l ds).2.1.length:=Z
   have d:=ZS (p:=QJ B s) (a:=0) c;rw[Ce,Ze c];have f:QJ B s 0=false:=XK Z;rw[f] at d
   have i:(if 0<YH (JG b n l ds).2.1[b+n] 0 then [YH (JG b n l ds).2.1[b+n] 0] else []).countP (QJ B s)=if QJ B s (JG b n l ds).2.1[b+n] then 1 else 0:=by
    rw[<- Vf (z:=0) (fun h=>Z)];generalize YH (JG b n l ds).2.1[b+n] 0=g;by_cases e:0<g
    . rw[AJ e];simp[Be]
    rw[AF e,XK Z];simp
   have:=ih Z;rw[i];simp at d;omega
theorem Trimmed.extG (h:Trimmed B S b n S') (c:Good B S k j) (l:XO S.us S.W (JM ⟨2,b,n,0⟩)) (m:j<=100000) (u:b+n<=B) (d:Ext B S):Ext B S':=by
 obtain⟨D',us',o,W',a,p,rfl⟩:=h;obtain⟨f,g⟩:=p.extG c l m d;have v:=c.ol;have q:=fun s=>LiveOk.small (S:={ S with lv:=o }) g ⟨c.cap,c.now,c.many,c.flt,c.flen,c.b1,c.b64,c.bl,c.ol,c.brefs,c.orefs,c.seq,c.epoch,c.done⟩ s;obtain⟨r,t⟩:=KX (B:=B) (a:=0) (zs:=(JG b n S.I.ol S.I.od).1) g.len q Z;refine⟨f,⟨r,fun s f=>?_,fun i hi=>?_⟩,d.slot,d.lie0,d.lie1⟩
 . rw[t s f,g.live s f]
   unfold ZN;simp only;have w:=KAD B s b n S.I.ol S.I.od Z;rw[XK (a:=((0:Nat):Int)) Z];simp only[Ap,CD];omega
 simp only at hi ⊢
 rw[AA,VX] at hi ⊢
 split
 . rename_i e
   rw[AJ e] at hi;simp at hi
 rename_i e
 rw[AF e,<- AA] at hi;rw[<- AA];exact d.liv.diff i hi
theorem Trimmed.ext (h:Trimmed B S b n S') (a:Good B S k j) (c:k<=50) (d:j<=100000) (e:b+n<=B) (f:Ext B S):Ext B S':=
 Trimmed.extG h a (a.cap.frees c (by unfold JM;split <;> omega)) d e f
theorem VBa (B s:Nat) (c ol:List Int) (d:c.length=ol.length) (h:∀ i,0<ol.getD i 0->ol.getD i 0≠c.getD i 0) (j:∀ x∈ol,-1<=x) :
 (List.zipWith (fun b o=>if o = -1 then b else o) c ol).countP (QJ B s)+((c.zip ol).flatMap (fun p=>if p.2 = -1 then [] else if 0<YH p.1 p.2 then [YH p.1 p.2] else [])).countP (QJ B s)=c.countP (QJ B s)+ol.countP (QJ B s):=by
 induction c generalizing ol with
 | nil=>
   cases ol with
   | nil=>rfl
   | cons o ol=>simp at d
 | cons b c ih=>
   cases ol with
   | nil=>simp at d
   | cons o ol=>
     have hi:=ih ol (uq d) (fun i hi=>uq (h (i+1) (uq hi))) (fun x m=>j x (by simp[m]));have k:=h 0;simp only[List.getD_cons_zero] at k;have r:=j o sq;rw[List.zipWith_cons_cons,List.zip_cons_cons,BE,Be,Be,Be,Ce];by_cases f:o = -1
     . subst f
       rw[AJ rfl,XK (a := -1) Z];simp;omega
     rw[AF f]
     simp only[AF f];have n:QJ B s (YH b o)=QJ B s b:=Vf (fun q e=>by subst e;exact k q rfl);rw[<- n];generalize YH b o=g;by_cases l:0<g
     . rw[AJ l,Be,DI];omega
     rw[AF l,XK (a:=g) Z];simp;omega
theorem Marked.extG (h:Marked B S e S') (b:Good B S k j) (l:XO S.us S.W (JM ⟨3,0,0,e⟩)) (p:j<=100000) (q:1<=e/\e<=j+1) (c:Ext B S):Ext B S':=by
 obtain⟨A,C,r,D,a,E,F,G,H,od,m,n,rfl⟩:=h;have t:PItem.May ⟨3,0,0,e⟩:=.inr (.inr (.inl ⟨rfl,rfl,rfl,q.1,by simp only;omega⟩));have g:=b.cap.addedG l t (fun h=>by cases h) m;obtain⟨d,f⟩:=m.extG b l p c;obtain⟨_,_,u,_⟩:=g.emitted n;have I:=g.lsn;have v:=n.segs d Z;have J:=b.ol;have K:=b.bl;have o:S.I.bl.length=S.I.ol.length:=Z
 have w:=fun s=>LiveOk.small (S:={ S with lv:=r }) f ⟨b.cap,b.now,b.many,b.flt,b.flen,b.b1,b.b64,b.bl,b.ol,b.brefs,b.orefs,b.seq,b.epoch,b.done⟩ s;obtain⟨y,z⟩:=KX (B:=B) (a:=0) (zs:=XAC S.I.bl S.I.ol S.I.ol.length) f.len w Z;refine⟨by simp only;rw[u];exact v,⟨y,fun s d=>?_,fun i hi=>?_⟩,c.slot,c.lie0,c.lie1⟩
 . rw[z s d,f.live s d]
   unfold ZN;simp only
   have g:=VBa B s S.I.bl S.I.ol o f.diff (fun x c=>by
    rcases b.orefs x c with rfl | rfl | ⟨h,_⟩ <;> omega)
   rw[Kl o,JR,XK (a:=((0:Nat):Int)) Z];unfold XAC;rw[AK (by simp;omega),C4,XK (a := -1) Z];simp only[Ap,CD];omega
 simp only at hi ⊢
 rw[JR,AA,Au] at hi
 split at hi <;> simp at hi
theorem Marked.ext (h:Marked B S e S') (a:Good B S k j) (b:k<=50) (c:j<=100000) (d:1<=e/\e<=j+1) (f:Ext B S):Ext B S':=
 Marked.extG h a (a.cap.frees b (by unfold JM;split <;> omega)) c d f
theorem Does.ext {o:POp} (h:Does B S o S') (g:KS B o) (a:Good B S k j) (c:k<=50) (d:j<=100000) (e:Ext B S):Ext B S':=by
 rcases h with⟨i,b⟩ | ⟨i,b⟩ | ⟨i,b,l⟩
 . rcases g with⟨_,m,n,p⟩ | ⟨f,_⟩ | ⟨f,_⟩
   . exact b.ext a c d Z e
   . omega
   omega
 . rcases g with⟨f,_⟩ | ⟨_,m,n,p⟩ | ⟨f,_⟩
   . omega
   . exact b.ext a c d Z e
   omega
 have q:=a.epoch
 exact l.ext a c d Z e
def PutDone (B:Nat) (S:PS) (b:Nat) (bs:List UInt8) (S':PS):Prop:=
 ∃ D' us' lv1 W' a,Added B S.D S.us S.lv S.W ⟨5,b,0,0⟩ bs D' us' lv1 W' a /\
   S'={ S with D:=D',us:=us',lv:=Xe B lv1 a [YH (S.I.bl.getD b 0) a],W:=W',I:={ S.I with bl:=S.I.bl.set b a,bd:=QH S.I.bl S.I.bd b a } }
theorem PutDone.goodG (h:PutDone B S b bs S') (c:Good B S k j) (e:XO S.us S.W (JM ⟨5,b,0,0⟩)) (w:b<B) (p:bs.length=64) :
 Good B S' (k+1) (j+1)/\YE B S'=(YE B S).set b bs/\S'.st=S.st:=by
 obtain⟨D',us',y,W',a,f,rfl⟩:=h;have q:PItem.May ⟨5,b,0,0⟩:=.inl ⟨.inr rfl,by have:=c.b64;simp only;omega,rfl,rfl⟩;have r:=c.cap.addedG e q (fun _=>p) f;obtain⟨s,g,i,l,t⟩:=f.readsG c.cap e c.now c.many;obtain⟨m,u⟩:=t rfl;have n:∀ x,Lies B S.us S.W x->Lies B us' W' x/\KJ B D' W' x=KJ B S.D S.W x:=fun x d=>⟨(l x d).1,(l x d).2.1⟩;have o:=JS (B:=B) (S:=S) (S':={ S with D:=D',us:=us',W:=W' }) n c.brefs;have v:=KP (B:=B) (S:=S) (S':={ S with D:=D',us:=us',W:=W' }) n c.orefs;have z:a≠0:=by have:=m.lo;omega
 refine⟨⟨r,s,g.trans c.many,by simp only;rw[i];exact c.flt,by simp only;rw[i,g];exact c.flen,c.b1,c.b64,uq c.bl,c.ol,?_,v.1,by have:=c.seq;simp only;omega,by have:=c.epoch;simp only;omega,by have:=c.done;simp only;omega⟩,?_,rfl⟩
 . intro x d
   rcases AS d with d | rfl
   . exact o.1 x d
   exact .inr ⟨Z,uq m⟩
 unfold YE
 simp only;rw[Ci]
 congr 1
 . exact o.2
 unfold ZF
 rw[AF Z];simp only[Ba];rw[u]
theorem PutDone.good (h:PutDone B S b bs S') (a:Good B S k j) (c:k<=50) (d:b<B) (e:bs.length=64) :
 Good B S' (k+1) (j+1)/\YE B S'=(YE B S).set b bs/\S'.st=S.st:=
 PutDone.goodG h a (a.cap.frees c (by unfold JM;split <;> omega)) d e
def Vs (l:List Int) (k:Nat):List Int:=(l.drop (k*15)).take 15
theorem Yj (l:List Int) (k:Nat):(Vs l k).length=min 15 (l.length-k*15):=by simp[Vs]
theorem YBN (h:x∈Vs l k):x∈l:=EE (Ch h)
theorem VBR (h:k<5):IntKind.i64.wrap (((k:Nat):Int)*15)=((k:Nat):Int)*15:=by rw[AI];omega
theorem KBX (h:k<5):IntKind.i64.wrap (((k:Nat):Int)+1)=((k:Nat):Int)+1:=by rw[AI];omega
theorem VBH (h:k<5):IntKind.i64.wrap ((((k:Nat):Int)+1)*15)=(((k:Nat):Int)+1)*15:=by rw[AI];omega
theorem ZBh (h:PagedAt w base p F l ds) (k:Nat) (z:k<ds.length) :
 Calls prog 393 #[pq p,k] w fun e w'=>∃ A c,e=.returned (.slice A (Vs l k).length c)/\Rd w A (Vs l k).length (KW (Vs l k))/\1<=(Vs l k).length/\w'=w.drew:=by
 have b:=KAM h;obtain⟨L,U,h⟩:=h;obtain⟨g,c,u,B,rfl,rfl,C,D,E⟩:=h.forms;obtain⟨r,s,G⟩:=h.cells;have H:=h.pos;have I:=h.few;have d:=h.pages;have f:15*pgs l.length<=l.length+14/\pgs l.length<=5:=by unfold pgs;omega
 rw[<- d] at f
 have t:l.length<=c:=by
  rcases h.rl.2 with⟨a,_⟩ | ⟨J,cap,K,a,f,M,v,N,O,P⟩
  . cases a
  cases a;exact v
 obtain⟨hi,y,Q,R,S,i⟩:∃ hi:Nat,min (((k:Nat)+1)*15:Int) (l.length:Nat)=(hi:Nat)/\hi<=l.length/\k*15<hi/\hi<=k*15+15/\hi-k*15=min 15 (l.length-k*15):=⟨min ((k+1)*15) l.length,Z,Z,Z,Z,Z⟩;have j:=((Rd.of_own h.rl).cutA (k:=k*15) (cap:=c) Z t).take (k:=hi-k*15) Z;have m:(Vs l k).length=hi-k*15:=by rw[Yj,i]
 have o:((KW l).drop (k*15)).take (hi-k*15)=KW (Vs l k):=by
  unfold Vs KW;rw[List.map_take,List.map_drop,List.take_eq_take_iff];simp;omega
 rw[o] at j;rw[m];have T:((k:Nat):Int)<5:=Z
 have V:((k:Nat):Int)<(ds.length:Nat):=Z
 clear o m d h i;generalize l.length=n at *;generalize ds.length=q at *;go_enter func393,ntmps393;go_wp2_with (refine b.mono ?_;clear b;rintro e w' ⟨rfl,rfl⟩);refine ZT (fun w'=>cl w' p (.slice (some g) n c)/\cl w' (aq p 1) (ii 15)) 23 [[0,1,2,3,4,5,6,7,8,9,10,11,12,13,14,15,16,17,18,19,20,21,22]] ⟨r,s⟩ ?_;simp only[PI];iterate 23 refine wG ?_
 refine VB ?_;go_wp2_with (refine Jd rfl (.tmp 16) (some (.tmp 22)) (some (.tmp 35)) rfl (.slice (cutA (some g) (k*15) c) (hi-k*15) (c-k*15)) ?hrun ?_)
 case hrun=>
  intro W;have:=elemInts.run_lh (some g) n c .i64 .i64 (((k:Nat):Int)*15) (hi:Nat) Z Z Z W;rw[show ((hi:Nat):Int).toNat-(((k:Nat):Int)*15).toNat=hi-k*15 from Z,show (((k:Nat):Int)*15).toNat=k*15 from Z] at this;show Sem.run prog (Instr.sliceAt 53 (.slice (some g) n c) (some (.int .i64 (IntKind.i64.wrap (((k:Nat):Int)*15)))) (some (.int .i64 (min (IntKind.i64.wrap (IntKind.i64.wrap (((k:Nat):Int)+1)*15)) (n:Nat)))) none) W=_;rw[VBR Z,KBX Z,VBH Z,y];exact this
 go_ret;exact⟨_,_,rfl,j,Z,rfl⟩
theorem ZAY (h:PagedAt w base p F l ds) (k:Nat) (f:k<ds.length) :
 Calls prog 339 #[pq p,k] w fun e w'=>∃ u,e=.returned u/\w'.ownsRow w.heap.size 3 1 u (Vs l k).length (KW (Vs l k))/\kz w w':=by
 have a:=ZBh h k f;have j:(Vs l k).length<=15:=by rw[Yj];omega
 generalize Vs l k=l2 at *;go_enter func339,ntmps339
 go_wp2_with (first
  | (go_at_call 393;refine a.mono ?_;clear a;rintro e w' ⟨A,c,rfl,g,m,rfl⟩;(have b:=Ja c l2 g.drew Z))
  | (go_at_call 219;refine b.mono ?_;clear b;rintro e w' ⟨V,rfl,d,i⟩;(have n:=VAz d)))
 go_ret;exact⟨_,rfl,d,kq.drew.tO i⟩
theorem JAa {I:PImage} (h:ImageAt w base m F I) (a:Bool) (k:Nat) (d:k<(if a then I.od else I.bd).length) :
 Calls prog 222 #[pq m,.bool a,k] w fun e w'=>∃ u,e=.returned u/\w'.ownsRow w.heap.size 3 1 u (Vs (if a then I.ol else I.bl) k).length (KW (Vs (if a then I.ol else I.bl) k))/\kz w w':=by
 obtain⟨b,c,j,l,h⟩:=h;have f:=YR w base m b c F j l I h a
 have g:Calls prog 339 #[pq (if a then c else b),k] w fun e w'=>∃ u,e=.returned u/\w'.ownsRow w.heap.size 3 1 u (Vs (if a then I.ol else I.bl) k).length (KW (Vs (if a then I.ol else I.bl) k))/\kz w w':=by
  cases a
  . exact ZAY h.b k d
  exact ZAY h.o k d
 generalize Vs (if a then I.ol else I.bl) k=l2 at *;generalize (if a then c else b)=pt at *;go_enter func222,ntmps222
 go_wp2_with (first
  | (go_at_call 230;refine f.mono ?_;clear f;rintro e w' ⟨rfl,rfl⟩)
  | (go_at_call 339;refine g.mono ?_;clear g;rintro e w' ⟨V,rfl,i,n⟩;(have o:=VAz i)))
 go_ret;exact⟨_,rfl,i,n⟩
section
open Go.RowKit Go.Shelf
attribute [local go_sem] AW
def Qg (ds:List Bool) (k:Nat):List Nat:=(List.range k).filter (fun i=>ds.getD i false)
theorem YAW (ds:List Bool) (k:Nat):Qg ds (k+1)=if ds.getD k false then Qg ds k++[k] else Qg ds k:=by
 unfold Qg;rw[Bq,DV];cases h:ds.getD k false
 . rw[AF sq];simp only[Dj,h];simp
 rw[AJ rfl];simp only[Dj,h];simp
def XBT (k:Nat):Array Value:=#[k]
def VBS (ds:List Bool) (pre:List Nat) (k:Nat) (_:World):Prop:=k<ds.length/\pre=Qg ds k/\ds.getD k false=true
def JBT (base p bc:Nat) (F:List Nat) (l:List Int) (ds:List Bool) (W W':World):Prop:=
 (Boxed W bc 295 (.pointer (some p))->Boxed W' bc 295 (.pointer (some p)))/\(PagedAt W base p F l ds->PagedAt W' base p F l ds)
theorem YBR (n:Nat) (v:Value) (w:World) (a:v.oneCell'=true) :
 CallsIn Fence.wide n prog 334 #[v] w fun e w'=>e=.returned (.func (.func 391) #[] #[pq w.heap.size])/\w'=w.alloc (.cells #[v] 295):=by
 refine(AQ (n:=n)).2 ?_;go_enter func334,ntmps334
 go_wp2
 go_ret;exact⟨rfl,rfl⟩
theorem QAN {a b:Nat} {d f:List Nat} {I:PImage} (h:ImageIs w base m a b F d f I) (c:Bool) :
 Calls prog 220 #[pq m,.bool c] w fun e w'=>e=.returned (.func (.func 391) #[] #[pq w.heap.size])/\w'=w.alloc (.cells #[pq (if c then b else a)] 295):=by
 have g:=YR w base m a b F d f I h c;generalize (if c then b else a)=pt at *;have i:=(AQ (n:=0)).1 (YBR 0 (.pointer (some pt)) w rfl);go_enter func220,ntmps220
 go_wp2_with (first
  | (go_at_call 230;refine g.mono ?_;clear g;rintro e w' ⟨rfl,rfl⟩)
  | (go_at_call 334;refine i.mono ?_;clear i;rintro e w' ⟨rfl,rfl⟩))
 go_ret;exact⟨rfl,rfl⟩
theorem XAr {d:Nat} (n:Nat) (b:PagedAt w base p F l ds) (a:Boxed w d 295 (.pointer (some p))) :
 ZBI n prog 391 #[pq d] XBT (VBS ds) (JBT base p d F l ds) (fun xs=>xs=Qg ds ds.length) w:=by
 intro lb J W v T y z;replace b:PagedAt W base p F l ds:=b.kO v;replace a:Boxed W d 295 (.pointer (some p)):=(v.block d a.lt sq).trans a;have A:=a.cell
 have V:ds.length<=5:=by
  obtain⟨L,U,h⟩:=b;have N:=h.pages;have X:=h.few;rw[N];unfold pgs;omega
 have B:=AQ (n:=n-1).2 (KAM b);refine Cd func391 rfl trivial ?_ rfl;simp only[ntmps391,PL,Nat.reduceAdd,Nat.reduceSub];gi_wp2_with (refine⟨trivial,fun h=>by simp[Fence.wide] at h,?_⟩;refine B.mono ?_;clear B;rintro e w' ⟨rfl,rfl⟩)
 gi_loopw [3,6] (fun _ i wr=>∃ (k:Nat) (pre:List Nat),k<=ds.length/\i=.int .i64 (k:Nat)/\J pre wr/\Hid (pre=Qg ds k)/\PagedAt wr base p F l ds/\Boxed wr d 295 (.pointer (some p)))
  (fun _ i _=>ds.length-(intOf i).toNat)
 case atStart=>exact⟨0,[],AP _,rfl,z,rfl,b,a⟩
 clear b a z A;obtain⟨k,pre,Y,rfl,q,j,b,a⟩:=hrel;have A:=a.cell;by_cases m:k<ds.length
 . have a0:((k:Nat):Int)<(ds.length:Nat):=Z
   have C:=b;obtain⟨L,U,o⟩:=b;obtain⟨g,c,u,uc,rfl,rfl,_⟩:=o.forms;have O:=o.cells.2.2;have D:=YAW ds k;have E:ds.getD k false=ds[k]:=by rw[AA,AC m];rfl
   have r:cl wr (aq u k) (.bool ds[k]):=YI o.rd (by simp[m]);have G:=ZB C;have H:=ZB D;have s:=ZB E;clear o C D E
   cases hdk:ds[k] with
   | true=>
     rw[hdk] at r;obtain⟨fn,a1,a2,a3,I,K⟩:=y pre k wr q ⟨m,ZA j,by rw[ZA s];exact hdk⟩;dsimp only[XBT] at I;have t:=ZB hdk;clear hdk;have a4:=ZB m
     gi_wp2
     refine⟨fun h=>by simp[Fence.wide] at h,K.mono ?_⟩;rintro e a5 ⟨rfl,P,Q,M⟩;have R:=M (ZA G);clear I K O r M
     gi_wp2
     go_roundw;case rel=>exact⟨k+1,_,Z,by go_num,P,by show _=_;rw[ZA H,ZA s,ZA t,ZA j];rfl,R,Q a⟩
     case measure=>simp[intOf];omega
   | false=>
     rw[hdk] at r;have t:=ZB hdk;clear hdk y
     gi_wp2
     refine⟨fun f S=>(by cases S),?_⟩
     gi_wp2
     go_roundw;case rel=>exact⟨k+1,pre,Z,by go_num,q,by show _=_;rw[ZA H,ZA s,ZA t];exact ZA j,ZA G,a⟩
     case measure=>simp[intOf];omega
 obtain rfl:k=ds.length:=Z
 gi_wp2
 go_end0
 exact⟨⟨_,rfl⟩,pre,ZA j,q⟩
end
section
open Go.RowKit Go.Shelf
attribute [local go_sem] AW
structure MetaD (lo:Nat) (D D':PDisk) (c:Nat):Prop where
 n:D'.n=D.n
 off:D'.off=D.off
 fuse:D'.fuse=D.fuse
 flt:D'.faults=D.faults
 acts:D'.acts<=D.acts+c
 nlen:D.now.length=D.n*64->D'.now.length=D.n*64
 now:D.now.length=D.n*64->∀ i,lo<=i->seg 64 D'.now i=seg 64 D.now i
theorem MetaD.refl (lo:Nat) (D:PDisk):MetaD lo D D 0:=⟨rfl,rfl,rfl,rfl,AG _,id,fun _ _ _=>rfl⟩
theorem MetaD.trans {b d:PDisk} (h:MetaD lo D b c) (a:MetaD lo b d c'):MetaD lo D d (c+c'):=
 ⟨a.n.trans h.n,a.off.trans h.off,a.fuse.trans h.fuse,a.flt.trans h.flt,by have:=h.acts;have:=a.acts;omega,
   fun e=>by have:=a.nlen (by rw[h.nlen e,h.n]);rw[this,h.n],fun e i hi=>(a.now (by rw[h.nlen e,h.n]) i hi).trans (h.now e i hi)⟩
theorem MetaD.write (b:k<lo) (c:lo<=D.n) (a:bs.length=64):MetaD lo D (D.write k bs) 1:=by
 refine⟨rfl,rfl,rfl,rfl,AG _,fun e=>?_,fun e i hi=>?_⟩
 . show (laid D.now (k*64) bs).length=_
   rw[QG _ _ _ Z,e]
 show seg 64 (laid D.now (k*64) bs) i=_
 exact seg_laid_other 64 _ _ _ _ Z a Z
theorem MetaD.flush (lo:Nat) (D:PDisk):MetaD lo D D.flush 1:=⟨rfl,rfl,rfl,rfl,AG _,id,fun _ _ _=>rfl⟩
theorem MetaD.mono (h:MetaD lo D D' c) (a:c<=c'):MetaD lo D D' c':=⟨h.n,h.off,h.fuse,h.flt,by have:=h.acts;omega,h.nlen,h.now⟩
structure KPg (w:World) (base d:Nat) (Fd:List Nat) (B:Nat) (D:PDisk) (sv:Value) (ov:Bool) (N b6 lg lc:Nat) (pre:List Nat) (W:World):Prop where
 st:∃ Fd' D' lie,DiskAt W base d Fd' D'/\MetaD (6+4*pgs B) D D' pre.length/\(∀ x∈Fd',x∈Fd\/N<=x)/\W.ownsRow w.heap.size 3 1 (.slice (some lg) (pgs B) lc) (pgs B) (XP lie)/\∀ x∈lie,x<=1
 size:N<=W.heap.size
 b2:Boxed W w.heap.size 38 sv
 b3:Boxed W (w.heap.size+1) 4 (.bool ov)
 b4:Boxed W (w.heap.size+2) 53 (.slice none 0 0)
 b5:Boxed W (w.heap.size+3) 32 (.int .i64 0)
 b6:Boxed W b6 53 (.slice (some lg) (pgs B) lc)
 keep:Keep Fd w W
theorem KPg.kept {X Y:World} (h:KPg w base d Fd B D sv ov N b6 lg lc pre X) (a:kz X Y):KPg w base d Fd B D sv ov N b6 lg lc pre Y:=by
 obtain⟨b,D',c,e,f,g,i,j⟩:=h.st;exact⟨⟨b,D',c,e.kO a,f,g,QB i a,j⟩,AB h.size a.size,JA h.b2 a sq,JA h.b3 a sq,JA h.b4 a sq,JA h.b5 a sq,JA h.b6 a sq,h.keep.tO a⟩
theorem KPg.turned {W:World} {l:Nat} {o a:Obj} (h:KPg w base d Fd B D sv ov N b6 lg lc pre W) (e:w.heap.size<=l) (b:W.heap[l]? = some o) (c:o.isCells=false):KPg w base d Fd B D sv ov N b6 lg lc pre (W.putObj l a):=by
 obtain⟨f,D',g,i,j,k,m,n⟩:=h.st;exact⟨⟨f,D',g,i.putObj a b c,j,k,ownsRow_putObj m a b c,n⟩,by rw[World.putObj_size];exact h.size,ZC a h.b2 b c,ZC a h.b3 b c,ZC a h.b4 b c,ZC a h.b5 b c,ZC a h.b6 b c,h.keep.putObj e a⟩
theorem KAY {Ft Fw a7:List Nat} {c7 c8:Value} (h:StoreIs w base s d g t p m Fd Ft Fw a7 c7 c8 B S) (d2:∀ x∈S.lie0,x<=1) (d3:∀ x∈S.lie1,x<=1) (ha:S.D.acts<=9000000) (a2:Bool) :
 Calls prog 95 #[pq s,.bool a2] w fun e w'=>∃ u Y O D',e=.returned (.tuple #[u,zz])/\w'.ownsRow w.heap.size 3 1 u (pgs B) (XP Y)/\(∀ x∈Y,x<=1) /\
  StoreIs w' base s d g t p m O Ft Fw a7 c7 c8 B { S with D:=D' }/\MetaD (6+4*pgs B) S.D D' (pgs B)/\Keep Fd w w'/\Grow w Fd O/\Apart O u.ownBlock.toList:=by
 obtain⟨d4,ez,d5,c9,d6,d7,d8,d9,da,db,dc,dd,de,df,dg,dh,di,f0⟩:=KC h.blk;obtain⟨dj,q0,rfl,_⟩:=XB h.l0;obtain⟨dk,q1,rfl,_⟩:=XB h.l1;have dl:=h.blk.lt;have ax:=(ZD h.log.geom.pos h.log.geom.few);have ay:=fun W (j:kz w W)=>Ja (A:=dj) (n:=(pgs B)) q0 (S.lie0.map (fun(x:Nat)=>(x:Int))) (w:=W) (by rw[<- JY];exact(Rd.of_own h.l0).keep j) Z;have bk:=fun W (j:kz w W)=>Ja (A:=dk) (n:=(pgs B)) q1 (S.lie1.map (fun(x:Nat)=>(x:Int))) (w:=W) (by rw[<- JY];exact(Rd.of_own h.l1).keep j) Z
 have az:∀ W,kz ((((w.alloc (.cells #[pq s] 38)).alloc (.cells #[.bool a2] 4)).alloc (.cells #[zn] 53)).alloc (.cells #[zz] 32)) W ->
  Boxed W w.heap.size 38 (.pointer (some (aq s 0)))/\Boxed W (w.heap.size+1) 4 (.bool a2)/\Boxed W (w.heap.size+2) 53 (.slice none 0 0)/\Boxed W (w.heap.size+3) 32 (.int .i64 0)/\kz w W/\w.heap.size+4<=W.heap.size:=by
  intro W j;obtain⟨w1,b0⟩:=ex (w.alloc (.cells #[pq s] 38));obtain⟨w2,b1⟩:=ex (w1.alloc (.cells #[.bool a2] 4));obtain⟨w3,b7⟩:=ex (w2.alloc (.cells #[zn] 53));obtain⟨w4,b8⟩:=ex (w3.alloc (.cells #[zz] 32));rw[<- b0,<- b1,<- b7,<- b8] at j;have s1:w1.heap.size=w.heap.size+1:=by rw[b0,AM]
  have s2:w2.heap.size=w.heap.size+2:=by rw[b1,AM,s1]
  have s3:w3.heap.size=w.heap.size+3:=by rw[b7,AM,s2]
  have s4:w4.heap.size=w.heap.size+4:=by rw[b8,AM,s3]
  have k1:kz w w1:=by rw[b0];exact kq.alloc _
  have k2:kz w1 w2:=by rw[b1];exact kq.alloc _
  have k3:kz w2 w3:=by rw[b7];exact kq.alloc _
  have k4:kz w3 w4:=by rw[b8];exact kq.alloc _
  refine⟨JA (by rw[b0];exact Boxed.new w _ _) (((k2.tO k3).tO k4).tO j) sq,JA (by rw[b1,<- s1];exact Boxed.new w1 _ _) ((k3.tO k4).tO j) sq,JA (by rw[b7,<- s2];exact Boxed.new w2 _ _) (k4.tO j) sq,
   JA (by rw[b8,<- s3];exact Boxed.new w3 _ _) j sq,(((k1.tO k2).tO k3).tO k4).tO j,by have:=j.size;omega⟩
 clear d4 d5 d6 d7 d8 d9 da db dc dd de df dg dh
 obtain⟨pt,b9,l,ds,dm,bl,bm,dn,ca,dp⟩:∃ pt b9 l ds,PagedAt w base pt b9 l ds /\
  (∀ W,kz w W->Calls prog 220 #[pq m,.bool a2] W fun e w'=>e=.returned (.func (.func 391) #[] #[pq W.heap.size])/\w'=W.alloc (.cells #[pq pt] 295)) /\
  (∀ W,ImageAt W base m a7 S.I->∀ k<ds.length,Calls prog 222 #[pq m,.bool a2,(k:Nat)] W fun e w'=>∃ u,e=.returned u/\w'.ownsRow W.heap.size 3 1 u (Vs l k).length (KW (Vs l k))/\kz W w') /\
  (∀ x∈l,-1<=x/\x<4096)/\(∀ x∈b9,x∈a7)/\ds.length=pgs B:=by
  have ba:=h.blen;obtain⟨p1,p2,dq,dr,R⟩:=h.img;have bn:=R.ok;have dt:=R.subB;have du:=R.subO
  have hp:∀ (q:Nat) (cb:List Nat) (l:List Int) (ds:List Bool),PagedAt w base q cb l ds->l.length=B->ds.length=pgs B:=fun q cb l ds hq hl=>by
   obtain⟨L,U,hq⟩:=hq;rw[hq.pages,hl]
  cases a2
  . exact⟨p1,dq,S.I.bl,S.I.bd,R.b,fun W j=>uq (QAN (R.kO j) false),fun W hi k j=>uq (JAa (w:=W) (base:=base) (m:=m) (F:=a7) (I:=S.I) hi false k (uq j)),fun x c=>by have:=bn.2.1 x c;omega,dt,hp _ _ _ _ R.b ba⟩
  exact⟨p2,dr,S.I.ol,S.I.od,R.o,fun W j=>uq (QAN (R.kO j) true),fun W hi k j=>uq (JAa (w:=W) (base:=base) (m:=m) (F:=a7) (I:=S.I) hi true k (uq j)),fun x c=>bn.2.2 x c,du,hp _ _ _ _ R.o (bn.1.symm.trans ba)⟩
 have cc:kz w ((((w.alloc (.cells #[pq s] 38)).alloc (.cells #[.bool a2] 4)).alloc (.cells #[zn] 53)).alloc (.cells #[zz] 32)):=((((Keep.refl [] w).alloc _).alloc _).alloc _).alloc _;have cd:=(B9 (a:=⟨s,16,none⟩) (cc.block s dl sq)).trans di;clear cc;refine(AQ (n:=3)).1 ?_;refine callsIn_of_wp_marks func95 rfl trivial ?_ rfl;simp only[ntmps95,PL,Nat.reduceAdd,Nat.reduceSub];cases a2
 case' false=>
  clear bk
  gi_wp2_with (first
   | (refine⟨trivial,?_⟩;refine((AQ (n:=2)).2 (ay _ (((((Keep.refl [] w).alloc _).alloc _).alloc _).alloc _))).mono ?_;rintro e P ⟨V,rfl,a4,aj⟩;clear ay c9 cd;(obtain⟨b2,b3,b4,b5,ak,T⟩:=az _ aj);clear az;(have a8:=VC a4 (base':=w.heap.size+4) (by simp only[AM];omega));clear a4;(obtain⟨lg,lc,rfl,_⟩:=YD a8 ax.1);(have v:kz P (P.alloc (.cells #[.slice (some lg) (pgs B) lc] 53)):=kq.alloc _);(have a0:=JA b2 v sq);(have Q:=JA b3 v sq);(have e2:=a0.cell);(have e3:=Q.cell))
   | fail)
  have bb:=own_mem a8 (g:=lg) (by simp[Value.ownBlock]);obtain⟨N,ad⟩:=ex (P.alloc (.cells #[.slice (some lg) (pgs B) lc] 53));rw[<- ad] at v a0 Q e2 e3 ⊢;obtain⟨b6,ae⟩:=ex P.heap.size;have X:Boxed N b6 53 (.slice (some lg) (pgs B) lc):=by rw[ad,ae];exact Boxed.new P _ _
  have H:=QB (VC a8 (base':=w.heap.size) Z) v;rw[<- JY] at H;have dv:w.heap.size+4<=b6:=Z
  have bc:=JA b4 v sq;have bd:=JA b5 v sq;have kb:=ak.tO v;have dw:=bb.1;rw[<- ae];have bo:=d2;obtain⟨ov,a9⟩:∃ ov:Bool,ov=false:=⟨_,rfl⟩;rw[<- a9] at Q;simp only[<- a9] at bl bm;clear ad ae v a8 aj ak T b2 b3 b4 b5 bb a9 e2 e3
 case' true=>
  gi_wp2_with (first
   | (refine⟨trivial,?_⟩;refine((AQ (n:=2)).2 (ay _ (((((Keep.refl [] w).alloc _).alloc _).alloc _).alloc _))).mono ?_;rintro e P ⟨V,rfl,a4,aj⟩;clear ay c9 cd;(obtain⟨b2,b3,b4,b5,ak,T⟩:=az _ aj);clear az;(have a8:=VC a4 (base':=w.heap.size+4) (by simp only[AM];omega));clear a4;(obtain⟨bp,lc,rfl,_⟩:=YD a8 ax.1);(have v:kz P (P.alloc (.cells #[.slice (some bp) (pgs B) lc] 53)):=kq.alloc _);(have a0:=JA b2 v sq);(have Q:=JA b3 v sq);(have e2:=a0.cell);(have e3:=Q.cell);(have al:=ak.tO v);(obtain⟨_,_,_,_,_,_,_,_,_,_,_,_,_,_,_,_,_,dx⟩:=KC (h.kO al).blk);(have bq:Boxed (P.alloc (.cells #[.slice (some bp) (pgs B) lc] 53)) P.heap.size 53 (.slice (some bp) (pgs B) lc):=Boxed.new P _ _);(have dy:=al.size);(have ce:=bq.lt))
   | (refine⟨trivial,?_⟩;refine((AQ (n:=2)).2 (bk _ al)).mono ?_;rintro e af ⟨f1,rfl,bf,a3⟩;clear bk dx;(have X:=JA bq a3 sq);(obtain⟨lg,lc,rfl,_⟩:=YD bf ax.1);(have e6:=X.cell);(have f6:=X.frozen)))
  have bb:=own_mem bf (g:=lg) (by simp[Value.ownBlock]);have cf:=X.lt;obtain⟨b6,ae⟩:=ex P.heap.size;rw[<- ae] at X T ce cf ⊢;have a1:Keep [b6] af (af.setCell b6 (.slice (some lg) (pgs B) lc)):=kq.sc b6 0;have X:=X.set (.slice (some lg) (pgs B) lc);have H:=own_set (o:=0) (VC bf (base':=w.heap.size) Z) (b:=b6) (by simp[Value.ownBlock];omega) (.slice (some lg) (pgs B) lc);rw[<- JY] at H;have a0:=JA (JA a0 a3 sq) a1 (by simp;omega);have Q:=JA (JA Q a3 sq) a1 (by simp;omega);have bc:=JA (JA (JA b4 v sq) a3 sq) a1 (by simp;omega);have bd:=JA (JA (JA b5 v sq) a3 sq) a1 (by simp;omega);have kb:kz w (af.setCell b6 (.slice (some lg) (pgs B) lc)):=(al.tO a3).trans a1 iq;have dw:w.heap.size+4<=lg:=Z
  have dv:w.heap.size+4<=b6:=Z
  have bo:=d3;obtain⟨N,ad⟩:=ex (af.setCell b6 (.slice (some lg) (pgs B) lc));rw[<- ad] at X H a0 Q bc bd kb ⊢;obtain⟨ov,a9⟩:∃ ov:Bool,ov=true:=⟨_,rfl⟩;rw[<- a9] at Q;simp only[<- a9] at bl bm;clear ad ae v bf a8 aj a3 a1 ak al T dy ce cf b2 b3 b4 b5 bb a9 e2 e3 e6 f6 bq
 all_goals
  obtain⟨_,_,_,g3,_,_,_,_,_,_,_,_,_,_,_,_,_,_⟩:=KC (h.kO kb).blk;have e2:=a0.cell;have e3:=Q.cell;have cg:=bl N.drew kb.drew;refine XU (Ck.2 ?_);refine ZT (fun W'=>cl W' w.heap.size (pq s)/\cl W' (aq s 3) (pq m)/\cl W' ⟨w.heap.size+1,0,none⟩ (.bool ov)) 5 [[0,1,2,3,4]] ⟨e2,g3,e3⟩ ?_;simp only[PI];iterate 5 refine wG ?_
  refine VB ?_;go_wp2_with (refine cg.mono ?_;clear cg;rintro e f2 ⟨rfl,rfl⟩)
  gi_wp2
  obtain⟨a5,am⟩:=ex ((N.alloc (.cells #[pq pt] 295)).drew);have aa:a5.heap.size=N.heap.size+1:=by rw[am];show (N.alloc _).heap.size=_;rw[AM]
  have kc:kz N a5:=by rw[am];exact(kq.alloc _).drew
  have ch:Boxed a5 N.heap.size 295 (.pointer (some (aq pt 0))):=by rw[am];exact JA (Boxed.new N _ _) (Keep.refl [] _).drew sq
  rw[<- am];have ci:ZBI 2 prog 391 #[pq N.heap.size] (fun k=>#[(k:Nat)]) (VBS ds) (JBT base pt N.heap.size b9 l ds) (fun xs=>xs=Qg ds ds.length) a5:=XAr 2 (dm.kO (kb.tO kc)) ch;have f3:=(own_mem H (g:=lg) (by simp[Value.ownBlock])).2;have h0:KPg w base d Fd B S.D (.pointer (some (aq s 0))) ov a5.heap.size b6 lg lc [] a5:=⟨⟨Fd,S.D,_,h.log.disk.kO (kb.tO kc),MetaD.refl _ _,fun x c=>.inl c,QB H kc,bo⟩,AG _,JA a0 kc sq,JA Q kc sq,JA bc kc sq,JA bd kc sq,JA X kc sq,(kb.tO kc).zero⟩;have f4:=X.lt;have br:=h.log.disk.lt;have f5:=kb.size;have an:=ZB aa;clear am kc e2 e3 g3 a0 Q bc bd X H bo aa ch
  refine ZZ (n:=3) (gf:=391) (lb:=#[pq N.heap.size]) 7 (fun k=>.int .i64 (k:Nat)) rfl (enters_of func391 (by kernel_rfl) rfl)
   ci
   (fun A B C h k=>⟨fun E=>k.1 (h.1 E),fun E=>k.2 (h.2 E)⟩)
   (fun W l o bg hl ao ho=>⟨fun E=>ZC bg E ao ho,fun E=>E.putObj bg ao ho⟩)
   (KPg w base d Fd B S.D (.pointer (some (aq s 0))) ov a5.heap.size b6 lg lc) (fun s A B h j=>h.kept j) (fun s W l o bg h hl ao ho=>h.turned (by have:=ZA an;omega) ao ho)
   (fun pre x W l o bg h hl ao ho=>h) h0 ?assign ?body ?done
  case assign=>
   rintro l x W K J;simp only[PU,BB] at J
   gi_wp2
   exact J
  case body=>
   rintro lb pre k W f ⟨j,cj,ck⟩;obtain⟨O,D',Y,ap,M,a6,H,bh⟩:=f.st;have aa:=ZA an;have cm:=f.size;have ab:∀ x,w.heap.size<=x->x<a5.heap.size->x∉O:=fun x h1 h2 r=>(a6 x r).elim (fun r=>by have:=br x r;omega) Z;have n2:=ab w.heap.size Z Z;have n3:=ab (w.heap.size+1) Z Z;have n4:=ab (w.heap.size+2) Z Z;have n5:=ab (w.heap.size+3) Z Z;have n6:=ab b6 Z Z;have ng:=ab lg Z Z;have nc:=ab N.heap.size Z Z;have R:ImageAt W base m a7 S.I:=h.img.keep f.keep (fun x c r=>h.apm x c (by simp[r]));have dz:GeomAt W g B:=h.log.geom.keep f.keep h.log.gd;have bi:=h.blk.keep f.keep (fun r=>h.aps (by simp[r]));obtain⟨f7,f8,_,bt,_,_,_,_,_,_,_,_,_,_,_,_,_,_⟩:=KC bi;have cn:=bm W.drew (R.kO kq.drew) k j;have bu:k<pgs B:=Z
   have f9:pgs B<=5:=ax.2;have e2:=f.b2.cell;have e3:=f.b3.cell;have e0:(Vs l k).length<=15:=by rw[Yj];omega
   have e1:∀ z∈Vs l k,-1<=z/\z<4096:=fun z T=>dn z (YBN T);have e4:=ZB cj;have fa:=ZB ck;clear cj ck;generalize Vs l k=zs at *;simp only[PU];have e5:=ZB cm;have fb:=ZB aa;clear cm aa
   gi_wp2
   refine ZI (S:=(fun W'=>cl W' w.heap.size (pq s)/\cl W' (aq s 3) (pq m)/\cl W' ⟨w.heap.size+1,0,none⟩ (.bool ov))) 12 [[0,1,2,3,4,5],[6],[7,8,9,10,11]] ⟨e2,bt,e3⟩ ?_;simp only[PI];iterate 6 refine wG ?_
   refine JB rq fun K J=>?_;go_wp2_with (refine cn.mono ?_;clear cn;rintro e af ⟨V,rfl,a4,a3⟩;obtain⟨fc,pc,rfl,_⟩:=XB a4);have ag:kz W af:=kq.drew.tO a3;have co:=ZBL pc zs (Rd.of_own a4) e1 e0;refine J _ _ (⟨(JA f.b2 ag sq).cell,(B9 (a:=⟨s,3,none⟩) (ag.block s bi.lt sq)).trans bt,(JA f.b3 ag sq).cell⟩) ?_
   try simp only[Act.put,PU]
   refine JB rq fun K J=>?_;go_wp2_with (refine co.mono ?_;clear co;rintro e ar ⟨u,bs,rfl,ba,hu,e7⟩;obtain⟨ug,uc,rfl,_⟩:=YD hu Z);have ah:kz W ar:=ag.tO e7;refine J _ _ (⟨(JA f.b2 ah sq).cell,(B9 (a:=⟨s,3,none⟩) (ah.block s bi.lt sq)).trans bt,(JA f.b3 ah sq).cell⟩) ?_
   iterate 4 refine wG ?_
   refine VB ?_
   go_wp2
   gi_wp2
   have cp:Y.length=pgs B:=by have:=H.1;simpa [XP] using this
   obtain⟨x,c⟩:∃ x,Y[k]? = some x:=⟨_,AC Z⟩;have e8:x<=1:=bh x (Bz c);obtain⟨y,hy⟩:=ex (1-x);have fd:(1:Int)-(x:Nat)=(y:Nat):=Z
   have cq:y<=1:=Z
   have bv:=QB H ah;have eg:=YI bv (i:=k) (u:=.int .i64 (x:Nat)) (by simp[XP,c]);have e6:=(JA f.b6 ah sq).cell;have f6:=XJ (QB bv (Keep.refl [] ar).drew) k;have fe:((x:Nat):Int)<=1:=Z
   have ff:((k:Nat):Int)<(pgs B:Nat):=Z
   have fg:=ZB c;have fh:=ZB hy;have cr:=ZB cp;clear c hy cp e8 e2 e3;refine ZI (S:=(fun W'=>cl W' b6 (.slice (some lg) (pgs B) lc)/\cl W' (aq lg k) (x:Nat))) 7 [[0,1,2,3,4,5,6]] ⟨e6,eg⟩ ?_;simp only[PI];iterate 7 refine wG ?_
   refine VB ?_;go_wp2_with fail
   gi_wp2
   have fi:lg≠b6:=fun e=>f.b6.not_row (by decide) H (by simp[Value.ownBlock,e]);have fj:=h.log.geom.lt;have a1:Keep [lg] ar ((ar.setCell (aq lg k) (.int .i64 (y:Nat))).drew):=(kq.sc lg k).drew;have au:=QB (QW bv k (.int .i64 (y:Nat))) (Keep.refl [] _).drew;rw[show (XP Y).set k (.int .i64 (y:Nat))=XP (Y.set k y) by simp[XP,Ci]] at au;obtain⟨ac,cs⟩:=ex ((ar.setCell (aq lg k) (.int .i64 (y:Nat))).drew);rw[<- cs] at a1 au ⊢;have G:Keep [lg] W ac:=ah.zero.trans a1 (fun x c=>.inl c);have x2:=JA f.b2 G (by simp;omega);have x3:=JA f.b3 G (by simp;omega);have x4:=JA f.b4 G (by simp;omega);have x5:=JA f.b5 G (by simp;omega);have x6:=JA f.b6 G (by simp;omega);have e9:=ap.keep G (fun x c r=>by simp at r;subst r;exact ng c);have ea:=dz.keep G (by simp;omega);have ct:=bi.keep G (by simp;omega);obtain⟨y0,y1,_,_,_,_,_,_,_,_,_,_,_,_,_,_,_,_⟩:=KC ct;have fk:=YI au (i:=k) (u:=.int .i64 (y:Nat)) (by simp[XP,ZA cr,bu])
   have cu:∀ V,kz ac V->cl V w.heap.size (pq s)/\cl V (aq s 0) (pq d)/\cl V (aq s 1) (pq g)/\cl V ⟨w.heap.size+1,0,none⟩ (.bool ov)/\cl V b6 (.slice (some lg) (pgs B) lc)/\cl V (aq lg k) (y:Nat):=by
    intro V j;obtain⟨y0,y1,_,_,_,_,_,_,_,_,_,_,_,_,_,_,_,_⟩:=KC (ct.kO j);exact⟨(JA x2 j sq).cell,y0,y1,(JA x3 j sq).cell,(JA x6 j sq).cell,YI (QB au j) (by simp[XP,ZA cr,bu])⟩
   have bw:=QAa ac.drew g B (ea.kO kq.drew) ov k y cq bu;obtain⟨z,T⟩:=ex (6+2*(k+(if ov then pgs B else 0))+y);have eb:z<6+4*pgs B:=by rw[T];split <;> omega
   rw[<- T] at bw
   have fl:pre.length<=5:=by
    rw[ZA e4];have:(Qg ds k).length<=k:=by unfold Qg;exact AB (DX _ _) sq
    omega
   have ec:=M.acts;have ed:=M.n;have ee:=h.log.many;have ef:=own_mem hu (g:=ug) (by simp[Value.ownBlock]);have eh:=KA hu a1 (fun x c=>by simp[Value.ownBlock] at c;subst c;simp;have:=f.size;have:=ZA an;have:=ag.size;omega);have ei:=fun V (bx:kz ac V)=>Zt (e9.kO bx) (M.off.trans h.log.off) (M.fuse.trans h.log.fuse) Z z Z uc bs (Rd.of_own (QB eh bx)) (fun a ej r=>by cases ej;have h1:=ap.lt _ r;have h2:=ag.size;have h3:=ef.1;simp only at h1;omega) (by have:=bx.size;have:=G.size;have:=f.keep.size;have:=h.log.le;omega);have bj:=ZB M;have fm:=ZB T;have cv:=ZB cu;clear M T cu cs eg e6 f6 ec ed ee;refine ZI (S:=(fun V=>cl V w.heap.size (pq s)/\cl V (aq s 0) (pq d)/\cl V (aq s 1) (pq g)/\cl V ⟨w.heap.size+1,0,none⟩ (.bool ov)/\cl V b6 (.slice (some lg) (pgs B) lc)/\cl V (aq lg k) (y:Nat))) 16 [[0,1,2,3,4,5,6,7,8,9,10,11,12,13,15],[14]] (ZA cv ac.drew kq.drew) ?_;simp only[PI];iterate 15 refine wG ?_
   refine JB rq fun K J=>?_;go_wp2_with (refine bw.mono ?_;clear bw;rintro e bz ⟨rfl,ek⟩);have av:kz ac bz:=kq.drew.tO ek;refine J _ _ (ZA cv bz av) ?_
   try simp only[Act.put,PU]
   refine VB ?_;have cw:=ei bz av;go_wp2_with (refine cw.mono ?_;clear cw;rintro e cx ⟨rfl,el,em,cy,en⟩)
   gi_wp2
   have aa:=ZA an;have eo:=ZA e5;have fn:=f.keep.size;have J:Keep (lg :: O) W cx:=((G.sub (m:=lg :: O) sq).trans av.zero (fun x c=>.inl c)).trans (cy.sub (fun x c=>Ak _ c)) (fun x c=>.inl c);have ai:Keep O ac cx:=av.zero.trans cy (fun x c=>.inl c);refine⟨J.fromCells ?_ _,⟨fun E=>JA E J ?_,fun E=>E.keep J ?_⟩,⟨⟨el,D'.write z bs,Y.set k y,em,?_,?_,KA au ai (fun x c=>by simp[Value.ownBlock] at c;subst c;exact ng),?_⟩,AB eo J.size,JA x2 ai n2,JA x3 ai n3,JA x4 ai n4,JA x5 ai n5,JA x6 ai n6,f.keep.trans J ?_⟩⟩
   . intro b E o ho
     rcases AL.1 E with rfl | E
     . exact JT H _ (by simp[Value.ownBlock]) o ho
     exact ap.cells b E o ho
   . simp only[AL,DK]
     exact⟨Z,nc⟩
   . intro x c r
     have h1:=h.img.lt x (ca x c);rcases AL.1 r with e | r
     . omega
     exact(a6 x r).elim (fun r=>h.apm x (ca x c) (by simp[r])) Z
   . rw[AE,Af]
     exact(ZA bj).trans (MetaD.write eb (by rw[(ZA bj).n,h.log.many];omega) ba)
   . intro x c
     rcases en x c with c | c
     . exact a6 x c
     have:=G.size;have:=av.size;exact .inr Z
   . intro x c
     rcases AS c with c | rfl
     . exact bh x c
     exact cq
   intro x c
   rcases AL.1 c with rfl | c
   . exact .inr Z
   exact(a6 x c).imp id Z
  case done=>
   intro cz xs W fo d0 f d1;obtain⟨O,D',Y,ap,M,a6,H,bh⟩:=f.st;have aa:=ZA an;have fp:=f.b4.cell;have fq:=f.b4.frozen;have fr:=f.b5.cell;have fs:=f.b5.frozen;have e6:=f.b6.cell;have ep:=ZB f;have eq:=ZB d0;have bj:=ZB M;clear h0 ci f d0 M
   gi_wp2
   have f:=ZA ep;have M:=ZA bj;have ft:=f.size;have ng:lg∉O:=fun r=>(a6 lg r).elim (fun r=>by have:=br lg r;omega) Z;have k4:Keep [w.heap.size+2] W (W.setCell ⟨w.heap.size+2,0,none⟩ (.slice (some lg) (pgs B) lc)):=kq.sc (w.heap.size+2) 0;have z4:=f.b4.set (.slice (some lg) (pgs B) lc);have z5:=JA f.b5 k4 sq;have zl:=own_set (o:=0) H (b:=w.heap.size+2) (by simp[Value.ownBlock];omega) (.slice (some lg) (pgs B) lc);obtain⟨c2,er⟩:=ex (W.setCell ⟨w.heap.size+2,0,none⟩ (.slice (some lg) (pgs B) lc));rw[show w.heap.size+1+1=w.heap.size+2 from Z,show w.heap.size+2+1=w.heap.size+3 from Z];rw[<- er] at k4 z4 z5 zl ⊢;have G:Keep [w.heap.size+3] c2 (c2.setCell ⟨w.heap.size+3,0,none⟩ (.int .i64 0)):=kq.sc (w.heap.size+3) 0;have z4:=JA z4 G sq;have z5:=z5.set (.int .i64 0);have zl:=own_set (o:=0) zl (b:=w.heap.size+3) (by simp[Value.ownBlock];omega) (.int .i64 0);obtain⟨es,et⟩:=ex (c2.setCell ⟨w.heap.size+3,0,none⟩ (.int .i64 0));rw[<- et] at G z4 z5 zl ⊢;have c4:Keep [w.heap.size+2,w.heap.size+3] W es:=(k4.sub sq).trans G (fun x c=>.inl (by simp at c;simp[c]));have aw:=(c4.block cz (AR.1 d1).1 (by simp;omega)).trans d1;have y4:=(ZC (.deferred none) z4 aw rfl).cell;have y5:=(ZC (.deferred none) z5 aw rfl).cell;have c5:=(f.keep.trans c4 iq).putObj (g:=cz) Z (.deferred none);have eu:=(ap.keep c4 (fun x c r=>by have:=a6 x c;simp at r;exact this.elim (fun h=>by have:=br x h;omega) Z)).putObj (.deferred none) aw rfl;have c6:Grow w Fd O:=fun x c=>(a6 x c).imp id Z;have ev:=h.log.setDisk eu c5 c6 M.off M.fuse M.n;have ew:=(h.setLog ev (c5.sub (fun x c=>by simp[c])) c6 (fun x c=>.inl c)).1
   have ey:xs.length<=pgs B:=by
    rw[ZA eq,<- dp];unfold Qg;exact AB (DX _ _) sq
   refine⟨sq,.inl ⟨_,_,rfl,run_takeDeferred aw,?_⟩⟩;refine⟨.tuple #[.slice (some lg) (pgs B) lc,zz],?_,_,Y,O,D',rfl,ownsRow_putObj zl (.deferred none) aw rfl,bh,ew,M.mono ey,c5,c6,fun x c r=>by simp[Value.ownBlock] at r;subst r;exact ng c⟩;simp[results,results95,go_sem,y4,y5]