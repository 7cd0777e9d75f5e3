/- Lemmas of the proof, with their conditions. -/
import Derived.Test.YtfedaknhecbehaaGreatM08
import Derived.Test.YtfedaknhecbehaaGreatM03
namespace Go.Proofs.YtfedaknhecbehaaGreat
open Tryz Go.RowKit
variable {B:Nat}
set_option linter.all false
set_option maxHeartbeats 2000000
def Vw (u:Nat×Nat):List Value:=[.int .i64 u.1,.int .i64 u.2]
theorem JJ (u:Nat×Nat):(Vw u).length=2:=rfl
structure TableIs (w:World) (base t g:Nat) (L V:Value) (F:List Nat) (us:List (Nat×Nat)) (lv:List Nat):Prop where
 blk:Blk w t 150 #[pq g,L,V]
 l:w.ownsRow base 166 2 L 8 (us.flatMap Vw)
 live:w.ownsRow base 3 1 V 8 (XP lv)
 foot:F=t :: (L.ownBlock.toList++V.ownBlock.toList)
 base:base<=t
 ulen:us.length=8
 uok:∀ u∈us,u.1<=2/\u.2<=2147483647
 lok:∀ x∈lv,x<=2147483647
def TableAt (w:World) (base t g:Nat) (F:List Nat) (us:List (Nat×Nat)) (lv:List Nat):Prop:=∃ L V,TableIs w base t g L V F us lv
namespace TableIs
variable {w w':World} {base t g:Nat} {L V:Value} {F l:List Nat} {us:List (Nat×Nat)} {lv:List Nat}
theorem keep (h:TableIs w base t g L V F us lv) (b:Keep l w w') (c:Apart F l):TableIs w' base t g L V F us lv:=by
 have a:=h.foot;exact⟨h.blk.keep b (c t (by simp[a])),KA h.l b fun g d=>c g (by simp[a,d]),KA h.live b fun g d=>c g (by simp[a,d]),a,h.base,h.ulen,h.uok,h.lok⟩
theorem kO (h:TableIs w base t g L V F us lv) (a:kz w w'):TableIs w' base t g L V F us lv:=h.keep a Apart.nil_right
theorem lt (h:TableIs w base t g L V F us lv):∀ x∈F,x<w.heap.size:=by
 rw[h.foot];intro x a;simp only[AL,AD] at a;rcases a with rfl | a | a
 . exact h.blk.lt
 . exact(own_mem h.l a).2
 exact(own_mem h.live a).2
theorem ge (h:TableIs w base t g L V F us lv):∀ x∈F,base<=x:=by
 rw[h.foot];intro x a;simp only[AL,AD] at a;rcases a with rfl | a | a
 . exact h.base
 . exact(own_mem h.l a).1
 exact(own_mem h.live a).1
theorem tL (h:TableIs w base t g L V F us lv):t∉L.ownBlock.toList:=fun a=>own_blk_ne h.l h.blk (by decide) (uq a)
theorem tV (h:TableIs w base t g L V F us lv):t∉V.ownBlock.toList:=fun a=>own_blk_ne h.live h.blk (by decide) (uq a)
theorem llen (h:TableIs w base t g L V F us lv):lv.length=8:=uq h.live.1
theorem forms (h:TableIs w base t g L V F us lv):∃ l lc v vc,L=.slice (some (aq l 0)) 8 lc/\V=.slice (some (aq v 0)) 8 vc/\l≠v/\t≠l/\t≠v:=by
 obtain⟨l,lc,rfl,_⟩:=YD h.l Z;obtain⟨v,vc,rfl,_⟩:=YD h.live Z;exact⟨l,lc,v,vc,rfl,rfl,fun e=>own_ne h.l h.live (by decide) rfl (by simp[Value.ownBlock,e]),fun e=>h.tL (by simp[Value.ownBlock,e]),fun e=>h.tV (by simp[Value.ownBlock,e])⟩
theorem cells (h:TableIs w base t g L V F us lv):cl w t (pq g)/\cl w (aq t 1) L/\cl w (aq t 2) V:=
 ⟨uq (h.blk.cell 0),uq (h.blk.cell 1),uq (h.blk.cell 2)⟩
end TableIs
section
variable {w w':World} {base t g l lc v vc:Nat} {F:List Nat} {us:List (Nat×Nat)} {lv:List Nat}
theorem TableIs.setUse (h:TableIs w base t g (.slice (some l) 8 lc) (.slice (some v) 8 vc) F us lv) (s j:Nat) (e:s<8) (f:j<2) (x:Nat) (y:Nat×Nat) (i:(Vw (us[s]'(by rw[h.ulen];exact e))).set j (.int .i64 x)=Vw y) (k:y.1<=2/\y.2<=2147483647) :
 TableIs (w.setCell (aq l (s*2+j)) (.int .i64 x)) base t g (.slice (some l) 8 lc) (.slice (some v) 8 vc) F (us.set s y) lv/\Keep [l] w (w.setCell (aq l (s*2+j)) (.int .i64 x)):=by
 have a:Keep [l] w (w.setCell (aq l (s*2+j)) (.int .i64 x)):=kq.setCell (.inl sq) _;have m:=h.ulen;have d:=QQ h.l (s*2+j) (.int .i64 x);rw[VY JJ us s j Z f _ y i] at d;refine⟨⟨h.blk.keep a (by simp;rintro rfl;exact h.tL (by simp[Value.ownBlock])),d,KA h.live a (fun b n=>by simp;rintro rfl;exact own_ne h.l h.live (by decide) rfl n),h.foot,h.base,uq m,?_,h.lok⟩,a⟩;intro u c;rcases AS c with c | rfl
 . exact h.uok u c
 exact k
theorem TableIs.setLive (h:TableIs w base t g (.slice (some l) 8 lc) (.slice (some v) 8 vc) F us lv) (s:Nat) (x:Nat) (e:x<=2147483647) :
 TableIs (w.setCell (aq v s) (.int .i64 x)) base t g (.slice (some l) 8 lc) (.slice (some v) 8 vc) F us (lv.set s x)/\Keep [v] w (w.setCell (aq v s) (.int .i64 x)):=by
 have a:Keep [v] w (w.setCell (aq v s) (.int .i64 x)):=kq.setCell (.inl sq) _;have d:=QW h.live s (.int .i64 x);rw[show (XP lv).set s (.int .i64 x)=XP (lv.set s x) by simp[XP,Ci]] at d;refine⟨⟨h.blk.keep a (by simp;rintro rfl;exact h.tV (by simp[Value.ownBlock])),KA h.l a (fun b f=>by simp;rintro rfl;exact own_ne h.live h.l (by decide) rfl f),d,h.foot,h.base,h.ulen,h.uok,?_⟩,a⟩;intro u c;rcases AS c with c | rfl
 . exact h.lok u c
 exact e
theorem TableIs.use (h:TableIs w base t g (.slice (some l) 8 lc) (.slice (some v) 8 vc) F us lv) (s:Nat) (a:s<8) :
 cl w (aq l (s*2)) (.int .i64 (us[s]'(by rw[h.ulen];exact a)).1)/\cl w (aq l (s*2+1)) (.int .i64 (us[s]'(by rw[h.ulen];exact a)).2):=by
 have b:=h.ulen;refine⟨?_,?_⟩
 . have:=XL h.l (k:=s*2+0) (u:=.int .i64 (us[s]'(by rw[h.ulen];exact a)).1) (by rw[YN JJ us s 0 Z Z];rfl)
   simpa using this
 exact XL h.l (by rw[YN JJ us s 1 Z Z];rfl)
theorem TableIs.liveOf (h:TableIs w base t g (.slice (some l) 8 lc) (.slice (some v) 8 vc) F us lv) (s:Nat) (a:s<8):cl w (aq v s) (ii (lv[s]'(by rw[h.llen];exact a))):=
 YI h.live (by have:=h.llen;simp[XP,a,this])
end
def ZO (lv:List Nat) (s:Nat) (by_:Int):List Nat:=lv.set s (if by_>2147483647-(lv.getD s 0:Nat) then 2147483647 else (max ((lv.getD s 0:Nat)+by_) 0).toNat)
theorem KAu {w:World} {base t g:Nat} {F:List Nat} {us:List (Nat×Nat)} {lv:List Nat} (h:TableAt w base t g F us lv) (E:GeomAt w g B) (a:Nat) (G:6+4*pgs B<=a) (f:a<198+4*pgs B) (z:Int) (M:z=1\/z = -1) :
 Calls prog 40 #[pq t,a,ii z] w fun e w'=>e=.returned (.bool true)/\TableAt w' base t g F us (ZO lv ((a-(6+4*pgs B)) / 24) z)/\Keep F w w':=by
 obtain⟨L,V,h⟩:=h;obtain⟨l,lc,v,vc,rfl,rfl,N,O,P⟩:=h.forms;obtain⟨Q,R,S⟩:=h.cells;have d:=ZAf E a G f;obtain⟨s,p⟩:=ex ((a-(6+4*pgs B)) / 24);have r:s<8:=Z
 rw[<- p] at d ⊢;clear p;generalize (a-(6+4*pgs B)) % 24=q at d;have T:((s:Nat):Int)<8:=Z
 have U:=h.llen;obtain⟨x,b⟩:=ex (lv[s]);have W:x<=2147483647:=h.lok x (by rw[b];exact AN _);have u:lv.getD s 0=x:=by rw[b,AA,AC Z];rfl
 have A:=ZB u;clear u;have C:=ZB b;by_cases X:2147483647-(x:Int)<z
 . go_enter func40,ntmps40
   clear b;go_wp2_with (refine d.mono ?_;clear d;rintro e w1 ⟨rfl,i⟩;have c:=h.kO i;obtain⟨H,I,D⟩:=c.cells;have j:=c.liveOf s r;rw[<- ZA C] at j;have J:=XJ c.live s);go_ret;obtain⟨f,n⟩:=c.setLive s 2147483647 (AG _);have o:ZO lv s z=lv.set s 2147483647:=by unfold ZO;rw[ZA A,AJ Z]
   rw[o];exact⟨rfl,⟨_,_,f⟩,i.zero.trans (n.sub (m:=F) (by rw[h.foot];simp[Value.ownBlock])) (fun x b=>.inl b)⟩
 go_enter func40,ntmps40
 clear b;go_wp2_with (refine d.mono ?_;clear d;rintro e w1 ⟨rfl,i⟩;have c:=h.kO i;obtain⟨H,I,D⟩:=c.cells;have j:=c.liveOf s r;rw[<- ZA C] at j;have J:=XJ c.live s);have Y:w1.drew.cell? (aq v s)=some (.int .i64 x):=j;have a0:IntKind.i64.wrap ((x:Nat)+z)=(x:Nat)+z:=by rw[AI];omega
 have K:∀ y:Int,y=max ((x:Nat)+z) 0->TableAt (w1.setCell (aq v s) (.int .i64 y)).drew base t g F us (ZO lv s z)/\Keep F w (w1.setCell (aq v s) (.int .i64 y)).drew:=fun y hy=>by
  obtain⟨y,rfl⟩:∃ k:Nat,y=(k:Nat):=⟨y.toNat,Z⟩;obtain⟨f,n⟩:=c.setLive s y Z;have o:ZO lv s z=lv.set s y:=by unfold ZO;rw[ZA A,AF Z];congr 1;omega
  rw[o];exact⟨⟨_,_,f.kO kq.drew⟩,(i.zero.trans (n.sub (m:=F) (by rw[h.foot];simp[Value.ownBlock])) (fun x b=>.inl b)).drew⟩
 refine ZT (fun w'=>cl w' (aq t 2) (.slice (some v) 8 vc)/\cl w' (aq v s) (ii x)) 15 [[0,1,2,3,4,5,6,7,8,9,10,11,12,13,14]] ⟨D,j⟩ ?_;simp only[PI];iterate 15 refine wG ?_
 refine VB ?_;go_wp2_with fail
 all_goals
  go_ret;exact⟨rfl,K _ Z⟩
theorem XBd {w:World} {base t g:Nat} {F:List Nat} {us:List (Nat×Nat)} {lv:List Nat} (h:TableAt w base t g F us lv) (b:GeomAt w g B) (z:Int) :
 cr 40 #[pq t,zz,ii z] w (.bool false):=by
 obtain⟨L,V,h⟩:=h;obtain⟨d,f,i⟩:=h.cells;have a:=ZBA b;go_enter func40,ntmps40;go_wp2_with (refine a.mono ?_;clear a;rintro e w1 ⟨rfl,c⟩);go_ret;exact⟨rfl,c⟩
theorem Qy {w:World} {base t g:Nat} {L V:Value} {F:List Nat} {us:List (Nat×Nat)} {lv:List Nat} (h:TableIs w base t g L V F us lv) (s:Nat) (a:s<8) :
 cq 79 #[pq t,s] w (.bool true):=by
 obtain⟨l,lc,v,vc,rfl,rfl,b,c,d⟩:=h.forms;obtain⟨e,f,i⟩:=h.cells;have j:((s:Nat):Int)<8:=Z
 go_enter func79,ntmps79
 go_wp2
 go_ret;exact⟨rfl,rfl⟩
def VE (us:List (Nat×Nat)) (s x:Nat):List (Nat×Nat):=us.set s (x,(us.getD s (0,0)).2)
def KG (us:List (Nat×Nat)) (s x:Nat):List (Nat×Nat):=us.set s ((us.getD s (0,0)).1,x)
theorem XI {us:List (Nat×Nat)} {s:Nat} (h:s<us.length):us.getD s (0,0)=us[s]:=by rw[AA,AC h];rfl
theorem YBD {w:World} {base t g:Nat} {F:List Nat} {us:List (Nat×Nat)} {lv:List Nat} (h:TableAt w base t g F us lv) (s x:Nat) (a:s<8) (c:x<=2147483647) :
 Calls prog 332 #[pq t,s,x] w fun e w'=>e=.returned (.tuple #[])/\TableAt w' base t g F (KG us s x) lv/\Keep F w w':=by
 obtain⟨L,V,h⟩:=h;have b:=Qy h s a;obtain⟨l,lc,v,vc,rfl,rfl,n,o,p⟩:=h.forms;obtain⟨q,r,u⟩:=h.cells;obtain⟨y,z⟩:=h.use s a;have d:=h.ulen;have A:=YP h.l (s*2+1);have B:((s:Nat):Int)<8:=Z
 have C:((x:Nat):Int)<=2147483647:=Z
 obtain⟨f,i⟩:=h.setUse s 1 a Z x (us[s].1,x) rfl ⟨(h.uok _ (AN _)).1,c⟩;have j:=ZB h.foot;have k:=ZB d

 go_enter func332,ntmps332;go_wp2_with (refine b.mono ?_;clear b;rintro e w' ⟨rfl,rfl⟩);have m:KG us s x=us.set s (us[s].1,x):=by unfold KG;rw[XI (by rw[ZA k];exact a)]
 refine Dv (v:=.tuple #[]) (by simp[results,results332,go_sem]) rfl ?_;rw[m];exact⟨rfl,⟨_,_,f⟩,i.sub (by rw[ZA j];simp[Value.ownBlock])⟩
theorem QBK {w:World} {base t g:Nat} {F:List Nat} {us:List (Nat×Nat)} {lv:List Nat} (h:TableAt w base t g F us lv) (s:Nat) (a:s<8) (b:(us.getD s (0,0)).1=1) :
 Calls prog 400 #[pq t,s] w fun e w'=>e=.returned (.tuple #[])/\TableAt w' base t g F (VE us s 2) lv/\Keep F w w':=by
 obtain⟨L,V,h⟩:=h;have c:=Qy h s a;obtain⟨l,lc,v,vc,rfl,rfl,o,p,q⟩:=h.forms;obtain⟨r,u,y⟩:=h.cells;have d:=h.ulen;obtain⟨f,z⟩:=h.use s a;rw[XI Z] at b;rw[b] at f;have A:=YP h.l (s*2);have B:((s:Nat):Int)<8:=Z
 obtain⟨i,j⟩:=h.setUse s 0 a Z 2 (2,us[s].2) rfl ⟨Z,(h.uok _ (AN _)).2⟩;have k:=ZB h.foot;have m:=ZB d;clear b;go_enter func400,ntmps400;go_wp2_with (refine c.mono ?_;clear c;rintro e w' ⟨rfl,rfl⟩);have n:VE us s 2=us.set s (2,us[s].2):=by unfold VE;rw[XI (by rw[ZA m];exact a)]
 refine Dv (v:=.tuple #[]) (by simp[results,results400,go_sem]) rfl ?_;rw[n];exact⟨rfl,⟨_,_,i⟩,j.sub (by rw[ZA k];simp[Value.ownBlock])⟩
theorem YBK {w:World} {base t g:Nat} {F:List Nat} {us:List (Nat×Nat)} {lv:List Nat} (h:TableAt w base t g F us lv) (s:Nat) (b:s<8) (a:(us.getD s (0,0)).1=0) :
 Calls prog 399 #[pq t,s] w fun e w'=>e=.returned (.bool true)/\TableAt w' base t g F (VE us s 1) (lv.set s 0)/\Keep F w w':=by
 obtain⟨L,V,h⟩:=h;have d:=Qy h s b;obtain⟨l,lc,v,vc,rfl,rfl,D,E,G⟩:=h.forms;obtain⟨H,i,j⟩:=h.cells;have k:=h.ulen;obtain⟨n,I⟩:=h.use s b;rw[XI Z] at a;rw[a] at n;have J:=YP h.l (s*2);have M:((s:Nat):Int)<8:=Z
 obtain⟨c,o⟩:=(h.kO kq.drew).setUse s 0 b Z 1 (1,us[s].2) rfl ⟨Z,(h.uok _ (AN _)).2⟩;obtain⟨p,q⟩:=c.setLive s 0 Z;have r:=c.liveOf s b;have u:=h.liveOf s b;have N:=XJ h.live s;have O:=XJ c.live s;have P:=c.cells.2.2;have z:=ZB h.foot;have A:=ZB k;clear a;generalize lv[s]'_=y at r u;go_enter func399,ntmps399;go_wp2_with (refine d.mono ?_;clear d;rintro e w' ⟨rfl,rfl⟩);refine ZT (fun w'=>cl w' (aq t 1) (.slice (some l) 8 lc)/\cl w' (aq t 2) (.slice (some v) 8 vc)) 13 [[0,1,2,3,4,5,6,7,8,9,10,11],[12]] ⟨i,j⟩ ?_;simp only[PI];iterate 12 refine wG ?_
 refine JB rq fun K B=>?_;go_wp2_with fail;refine B _ _ (⟨c.cells.2.1,c.cells.2.2⟩) ?_
 try simp only[Act.put,PU]
 refine VB ?_;go_wp2_with fail;go_ret;have C:VE us s 1=us.set s (1,us[s].2):=by unfold VE;rw[XI (by rw[ZA A];exact b)]
 rw[C];have f:=ZA z;exact⟨rfl,⟨_,_,p⟩,(kq.drew.trans (o.sub (m:=F) (by rw[f];simp[Value.ownBlock])) (fun x a=>.inl a)).trans (q.sub (m:=F) (by rw[f];simp[Value.ownBlock])) (fun x a=>.inl a)⟩
def YB (us:List (Nat×Nat)):Nat:=us.countP (fun u=>u.1 == 0)
def XC (us:List (Nat×Nat)):Nat:=us.findIdx (fun u=>u.1 == 0)
theorem Ys {w:World} {base t g:Nat} {F:List Nat} {us:List (Nat×Nat)} {lv:List Nat} (h:TableAt w base t g F us lv) :
 cr 100 #[pq t] w (YB us:Nat):=by
 obtain⟨L,V,h⟩:=h;obtain⟨l,lc,v,vc,rfl,rfl,y,z,A⟩:=h.forms;obtain⟨B,C,D⟩:=h.cells;have b:=h.ulen;have c:=ZB b;clear b;go_enter func100,ntmps100
 go_wp2
 go_loopw [2,4,12] (fun r _ i wr=>∃ m:Nat,m<=8/\i=.int .i64 m/\r=.int .i64 (YB (us.take m):Nat)/\kz w wr) (fun _ _ i _=>8-(intOf i).toNat)
 case atStart=>exact⟨0,AP _,rfl,rfl,kq⟩
 obtain⟨m,E,rfl,rfl,a⟩:=hrel;by_cases d:m<8
 . have n:m<us.length:=by rw[ZA c];exact d
   obtain⟨o,s⟩:=(h.kO a).use m d;have G:=YAI (h.kO a).l
   have e:YB (us.take (m+1))=YB (us.take m)+(if us[m].1 == 0 then 1 else 0):=by
    rw[AO n,YB,YB,Ce,D9]
   have H:YB (us.take m)<=8:=by
    have:=Ca (p:=fun u:Nat×Nat=>u.1 == 0) (l:=us.take m);rw[BH] at this;unfold YB;omega
   have f:=ZB e;clear e;generalize YB (us.take m)=q at *;have I:us[m].1=us[m].1:=rfl;generalize us[m]=p at *;obtain⟨j,J⟩:=p;simp only at o s;by_cases k:j=0
   . subst k
     go_wp2
     go_roundw;case rel=>exact⟨m+1,Z,by go_num,by rw[ZA f];simp,a.alloc _⟩
     case measure=>simp[intOf];omega
   have K:((j:Nat):Int)≠0:=Z
   go_wp2
   go_roundw;case rel=>exact⟨m+1,Z,by go_num,by rw[ZA f];simp[k],a.alloc _⟩
   case measure=>simp[intOf];omega
 obtain rfl:m=8:=Z
 go_wp2
 go_ret;exact⟨JL (by rw[AK (by rw[ZA c];exact AG _)]),a⟩
theorem VAc {w:World} {base t g:Nat} (l lc v vc:Nat) {F:List Nat} {us:List (Nat×Nat)} {lv:List Nat} (h:TableIs w base t g (.slice (some l) 8 lc) (.slice (some v) 8 vc) F us lv) (C:XC us<8) :
 cr 397 #[.slice (some l) 8 lc,.func (.func 398) #[] #[]] w (XC us:Nat):=by
 have n:=h.ulen
 have o:∀ (f q:Nat) W,cr 398 #[.agg #[ii f,ii q]] W (.bool (decide (f=0))):=fun f q W=>by
  go_enter func398,ntmps398
  go_wp2
  go_ret;exact⟨JF (by rw[Bh];simp),kq.alloc _⟩
 have s:=ZB n;clear n;go_enter func397,ntmps397
 go_wp2
 go_loopw [5,8] (fun _ i wr=>∃ m:Nat,m<=XC us/\i=.int .i64 m/\kz w wr) (fun _ i _=>8-(intOf i).toNat)
 case atStart=>exact⟨0,AP _,rfl,kq⟩
 obtain⟨m,y,rfl,j⟩:=hrel;have r:m<8:=Z
 have z:m<us.length:=by rw[ZA s];exact r
 obtain⟨A,D⟩:=(h.kO j).use m r;by_cases c:m=XC us
 . have B:=ZB c
   have d:us[m].1=0:=by
    subst c;have:=Cj (p:=fun u:Nat×Nat=>u.1 == 0) (xs:=us) (w:=z);exact CK.1 this
   rw[d] at A;clear d c;have b:=o 0 us[m].2;rw[AH rfl] at b;go_wp2_with (refine(b _).mono ?_;rintro e w1 ⟨rfl,k⟩);go_ret;exact⟨JL (a:=((m:Nat):Int)) (by rw[<- ZA B]),j.tO k⟩
 have d:us[m].1≠0:=by
  have:=DP (p:=fun u:Nat×Nat=>u.1 == 0) (xs:=us) (i:=m) (by unfold XC at y c;omega);simpa using this
 have b:=o us[m].1 us[m].2;rw[AU d] at b;go_wp2_with (refine(b _).mono ?_;rintro e w1 ⟨rfl,k⟩);go_roundw;case rel=>exact⟨m+1,Z,by go_num,j.tO k⟩
 case measure=>simp[intOf];omega
theorem KBM {w:World} {base t g:Nat} {F:List Nat} {us:List (Nat×Nat)} {lv:List Nat} (h:TableAt w base t g F us lv) (b:Bool) (o:b=false->2<YB us) (c:XC us<8) :
 Calls prog 347 #[pq t,.bool b] w fun e w'=>e=.returned (.tuple #[(XC us:Nat),.bool true])/\TableAt w' base t g F (VE us (XC us) 1) (lv.set (XC us) 0)/\Keep F w w':=by
 have r:=Ys h;obtain⟨L,V,h⟩:=h;obtain⟨l,lc,v,vc,rfl,rfl,B,C,D⟩:=h.forms;have m:=fun W (d:kz w W)=>VAc l lc v vc (h.kO d) c
 have n:=fun W (d:kz w W)=>YBK (w:=W) (base:=base) (t:=t) (g:=g) (F:=F) (us:=us) (lv:=lv) ⟨_,_,h.kO d⟩ (XC us) c (by
  have E:=h.ulen;rw[XI Z];have:=Cj (p:=fun u:Nat×Nat=>u.1 == 0) (xs:=us) (w:=by unfold XC at c;omega);exact CK.1 this)
 obtain⟨G,H,I⟩:=h.cells;have y:=Keep.refl [] w;generalize XC us=s at *;cases b
 . have J:(2:Int)<(YB us:Nat):=by have:=o rfl;omega
   generalize YB us=q at *;go_enter func347,ntmps347
   go_wp2_with (first
    | (go_at_call 100;refine r.mono ?_;rintro e w1 ⟨rfl,f⟩;have K:=(h.kO f).cells.2.1)
    | (go_at_call 397;refine(m _ f).mono ?_;rintro e z ⟨rfl,a⟩;replace a:=f.tO a)
    | (go_at_call 399;refine(n _ a).mono ?_;rintro e A ⟨rfl,i,j⟩))
   go_ret2;exact⟨rfl,i,a.zero.trans j (fun x k=>.inl k)⟩
 go_enter func347,ntmps347
 go_wp2_with (first
  | (go_at_call 397;refine(m _ y).mono ?_;rintro e z ⟨rfl,a⟩)
  | (go_at_call 399;refine(n _ a).mono ?_;rintro e A ⟨rfl,i,j⟩))
 go_ret2;exact⟨rfl,i,a.zero.trans j (fun x k=>.inl k)⟩